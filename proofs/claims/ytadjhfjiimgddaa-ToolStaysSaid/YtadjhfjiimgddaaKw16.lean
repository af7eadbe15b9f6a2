/- ToolStays: RfA Pl5 Nw FlQ Hints AwF FlP FaW Pk6 Pk7 CodePQ PkD. -/
import Derived.Test.YtadjhfjiimgddaaKw14
import Derived.Test.YtadjhfjiimgddaaKw11
import Derived.Test.YtadjhfjiimgddaaKw15
import Derived.Test.YtadjhfjiimgddaaKw7
import Derived.Test.YtadjhfjiimgddaaKw10
import Derived.Test.YtadjhfjiimgddaaKw4
import Derived.Test.YtadjhfjiimgddaaKw3
import Derived.Test.YtadjhfjiimgddaaProg
set_option linter.unusedSimpArgs false
set_option linter.unusedVariables false
set_option maxRecDepth 100000

/- The reference of flow: sums. -/
/- The reference of flow: sums. -/
namespace Go.Proofs.Ytadjhfjiimgddaa
open Go
def sIn (k : Int) (x : Seg × Int) : Int := comeOf k (segFl x.1 x.2)
def sOut (k : Int) (x : Seg × Int) : Int := leaveOf k (segFl x.1 x.2)
def qIn (k : Int) (x : Port × Int) : Int := comeOf k (portFl x.1 x.2)
def qOut (k : Int) (x : Port × Int) : Int := leaveOf k (portFl x.1 x.2)
theorem sIn_eq (k : Int) (s : Seg) (r : Int) : sIn k (s, r) = if toOf (s, r) = k then absI r else 0 := by
 unfold sIn comeOf segFl toOf absI
 dsimp only
 split <;> split <;> (try split) <;> omega
theorem sOut_eq (k : Int) (s : Seg) (r : Int) : sOut k (s, r) = if frOf (s, r) = k then absI r else 0 := by
 unfold sOut leaveOf segFl frOf absI
 dsimp only
 split <;> split <;> (try split) <;> omega
theorem qIn_eq {k : Int} (hk : 0 ≤ k) (x : Port) (q : Int) : qIn k (x, q) = if x.node = k then posI q else 0 := by
 unfold qIn comeOf portFl posI
 dsimp only
 split <;> split <;> (try split) <;> omega
theorem qOut_eq {k : Int} (hk : 0 ≤ k) (x : Port) (q : Int) : qOut k (x, q) = if x.node = k then negI q else 0 := by
 unfold qOut leaveOf portFl negI
 dsimp only
 split <;> split <;> (try split) <;> omega
theorem flows_sum (f : Fl → Int) (n : Net) (p : Pln) : sumI f (flowsOf n p) = sumI (fun x : Seg × Int => f (segFl x.1 x.2)) (n.segs.zip p.rates) + sumI (fun x : Port × Int => f (portFl x.1 x.2)) (n.ports.zip p.ports) := by
 unfold flowsOf
 rw [sumI_app, ← List.map_uncurry_zip_eq_zipWith, ← List.map_uncurry_zip_eq_zipWith, sumI_map, sumI_map]
 rfl
theorem sumI_tkR {α : Type} (f : α → Int) {l : List α} {j : Nat} {x : α} (h : l[j]? = some x) : sumI f (l.take (j + 1)) = sumI f (l.take j) + f x := by
 have hj : j < l.length := by
  rcases Nat.lt_or_ge j l.length with h1 | h1
  ·exact h1
  ·rw [List.getElem?_eq_none h1] at h; cases h
 rw [← List.take_append_getElem hj, sumI_snoc]
 rw [List.getElem?_eq_getElem hj] at h
 cases h
 rfl
theorem sum_bR {α : Type} {f : α → Int} {l : List α} (h : ∀ x ∈ l, 0 ≤ f x ∧ f x ≤ 1000) (j : Nat) : 0 ≤ sumI f (l.take j) ∧ sumI f (l.take j) ≤ 1000 * j := by
 have a := sumI_nn (f := f) (l := l.take j) fun x hx => (h x (List.mem_of_mem_take hx)).1
 have b := sumI_le (f := f) 1000 (l := l.take j) fun x hx => (h x (List.mem_of_mem_take hx)).2
 rw [List.length_take] at b
 omega
theorem absI_bR {r : Int} (h : -1000 ≤ r ∧ r ≤ 1000) : 0 ≤ absI r ∧ absI r ≤ 1000 := by unfold absI; split <;> omega
def RsF (k : Int) (l : List (Nat × D)) : List (Nat × D) := (2, di k) :: (3, .ptr (0, 3) 0 0 0) :: (4, .ptr (0, 4) 0 0 0) :: l
def RsG (k : Int) (l : List (Nat × D)) : List (Nat × D) := (2, di k) :: (4, .ptr (0, 4) 0 0 0) :: l
def RsH (n : Net) (p : Pln) : Hp := (Hp.none.put (0, 4) ⟨0, 3, [plnD p]⟩).put (0, 3) ⟨0, 6, [netD n]⟩
def RsI (p : Pln) : Hp := Hp.none.put (0, 4) ⟨0, 3, [plnD p]⟩
def TRs : Tbl := tc 83 (rowPu selEnds) (tc 84 (rowPu selAbs) T0)
theorem TRs_ok : TblOk Try.prog TRs := tc_rends (tc_rabs (T0_ok _))
set_option maxHeartbeats 16000000 in
theorem rsums_c (n : Net) (p : Pln) (h : FlOk n p) (k : Int) (hk : 0 ≤ k) (nn : Nm) : CallsA Try.prog 144 [n.enc, p.enc, di k] Hp.none nn (Pu (.tup [di (sumI (comeOf k) (flowsOf n p)), di (sumI (leaveOf k) (flowsOf n p))]) Hp.none) := by
 obtain ⟨code, h1, h2⟩ := c144_ok
 refine callsA_of TRs_ok mixed (N := fun t => (0, t)) Try.func144 h1 h2 r144_ok [] false js_nil js_nil' (by simp [Try.f144]) ?_
 have hsl := h.sl
 have hql := h.ql
 have hrl := h.rl
 have hpl := h.pl
 have rb : ∀ x ∈ n.segs.zip p.rates, -1000 ≤ x.2 ∧ x.2 ≤ 1000 := fun x hx => by
  have : segFl x.1 x.2 ∈ flowsOf n p := by
   unfold flowsOf
   rw [List.mem_append, ← List.map_uncurry_zip_eq_zipWith]
   exact .inl (List.mem_map.2 ⟨x, hx, rfl⟩)
  exact (h.fl _ this).2.2
 have qb : ∀ x ∈ n.ports.zip p.ports, -1000 ≤ x.2 ∧ x.2 ≤ 1000 := fun x hx => by
  have : portFl x.1 x.2 ∈ flowsOf n p := by
   unfold flowsOf
   rw [List.mem_append, ← List.map_uncurry_zip_eq_zipWith, ← List.map_uncurry_zip_eq_zipWith]
   exact .inr (List.mem_map.2 ⟨x, hx, rfl⟩)
  exact (h.fl _ this).2.2
 have bI := fun j => sum_bR (f := sIn k) (l := n.segs.zip p.rates) (fun x hx => ⟨come_nn _ _, come_le (rb x hx)⟩) j
 have bO := fun j => sum_bR (f := sOut k) (l := n.segs.zip p.rates) (fun x hx => ⟨leave_nn _ _, leave_le (rb x hx)⟩) j
 have bQI := fun j => sum_bR (f := qIn k) (l := n.ports.zip p.ports) (fun x hx => ⟨come_nn _ _, come_le (qb x hx)⟩) j
 have bQO := fun j => sum_bR (f := qOut k) (l := n.ports.zip p.ports) (fun x hx => ⟨leave_nn _ _, leave_le (qb x hx)⟩) j
 have hZl : (n.segs.zip p.rates).length = n.segs.length := by rw [List.length_zip]; omega
 have hYl : (n.ports.zip p.ports).length = n.ports.length := by rw [List.length_zip]; omega
 have f1 := flows_sum (comeOf k) n p
 have f2 := flows_sum (leaveOf k) n p
 rw [f1, f2]
 simp (maxSteps:=500000) only [↓vp, vv, ↓reduceIte, simprocAttr, c144, Net.enc, Pln.enc, plnD]
 refine rng_loop n.segs.length (fun j => ⟨fr (RsF k [(8, di (sumI (sIn k) ((n.segs.zip p.rates).take j))), (9, di (sumI (sOut k) ((n.segs.zip p.rates).take j))), (17, .sl (n.segs.map Seg.row)), (18, di n.segs.length), (19, di (j : Nat))]), RsH n p⟩) (fun _ => True) (weak_eqA [] [(0, 3), (0, 4)] (RsF k [(8, di 0), (9, di 0), (17, .sl (n.segs.map Seg.row)), (18, di n.segs.length), (19, di 0)]) (by refine ⟨?_, ?_, ?_, by simp, ?_⟩ <;> (simp only [↓vp, vv, ↓reduceIte, simprocAttr, coverS, refsF, RsF, RsH, netD, plnD] <;> try rfl))) trivial (fun j hj _ => ?_) (fun _ => ?_)
 ·have hj' : (j : Int) < n.segs.length := by omega
  have hjn := idx_nn j
  have hjr : j < p.rates.length := by omega
  have hjr' : (j : Int) < p.rates.length := by omega
  have w1 := idx_next (j := j) (by omega)
  have hgs : (n.segs.map Seg.row).getD j [] = Seg.row n.segs[j] := getD_map Seg.row n.segs j hj
  have hgr := iRow_at p.rates j hjr
  have hx := zip_get hj hjr
  have hm := rb _ (List.mem_of_getElem? hx)
  have eI := sumI_tkR (sIn k) hx
  have eO := sumI_tkR (sOut k) hx
  have b1 := bI j
  have b2 := bO j
  have b3 := bI (j + 1)
  have b4 := bO (j + 1)
  generalize n.segs[j] = s at hgs hx eI eO hm
  generalize p.rates[j] = r at hgr hx eI eO hm
  rw [sIn_eq] at eI
  rw [sOut_eq] at eO
  have hs1 : segOf1 [ds s.name, di s.fr, di s.to, di s.cap, di s.resist, di s.wave, .sl (s.points.map Pt.row)] = some s := segOf1_row s
  obtain ⟨A, hA⟩ : ∃ A, sumI (sIn k) ((n.segs.zip p.rates).take j) = A := ⟨_, rfl⟩
  obtain ⟨B, hB⟩ : ∃ B, sumI (sOut k) ((n.segs.zip p.rates).take j) = B := ⟨_, rfl⟩
  rw [hA] at eI b1
  rw [hB] at eO b2
  cases c1 : (r == (0 : Int)) with
  | true =>
   have r0 : r = 0 := by simpa using c1
   have a0 : absI r = 0 := by rw [r0]; rfl
   simp only [a0, ite_self, Int.add_zero] at eI eO
   simp (maxSteps:=500000) only [↓vp, vv, ↓reduceIte, simprocAttr, c144_5, c144_4, c144_3, RsF, RsH, netD, plnD, hA, hB, hj', hjn, hjr', Int.toNat_natCast, hgs, hgr, c1, w1, Seg.row]
   exact rng_next hj (weak_eqA [] [(0, 3), (0, 4)] (RsF k [(8, di (sumI (sIn k) ((n.segs.zip p.rates).take (j + 1)))), (9, di (sumI (sOut k) ((n.segs.zip p.rates).take (j + 1)))), (17, .sl (n.segs.map Seg.row)), (18, di n.segs.length), (19, di (j + 1 : Nat))]) (by refine ⟨?_, ?_, ?_, by simp, ?_⟩ <;> (simp only [↓vp, vv, ↓reduceIte, simprocAttr, coverS, refsF, RsF, RsH, netD, plnD, w1, eI, eO] <;> try rfl))) trivial
  | false =>
   have hab : -1000000 ≤ r ∧ r ≤ 1000000 := by dsimp only at hm; omega
   have ha := absI_bR (show -1000 ≤ r ∧ r ≤ 1000 from hm)
   have wA : IntKind.i64.wrap (A + absI r) = A + absI r := wrap_i (by omega)
   have wB : IntKind.i64.wrap (B + absI r) = B + absI r := wrap_i (by omega)
   cases c2 : (frOf (s, r) == k) <;> cases c3 : (toOf (s, r) == k)
   all_goals
    have q2 : (frOf (s, r) = k) = (frOf (s, r) == k) := by simp
    have q3 : (toOf (s, r) = k) = (toOf (s, r) == k) := by simp
    simp only [q2, q3, c2, c3, if_true, if_false, Bool.false_eq_true, Int.add_zero] at eI eO
    simp (maxSteps:=500000) only [↓vp, vv, ↓reduceIte, simprocAttr, c144_5, c144_4, c144_3, c144_2, c144_1, TRs, selEnds, selAbs, RsF, RsH, netD, plnD, hA, hB, hj', hjn, hjr', Int.toNat_natCast, hgs, hgr, hs1, c1, c2, c3, hab, wA, wB, w1, Seg.row]
    exact rng_next hj (weak_eqA [] [(0, 3), (0, 4)] (RsF k [(8, di (sumI (sIn k) ((n.segs.zip p.rates).take (j + 1)))), (9, di (sumI (sOut k) ((n.segs.zip p.rates).take (j + 1)))), (17, .sl (n.segs.map Seg.row)), (18, di n.segs.length), (19, di (j + 1 : Nat))]) (by refine ⟨?_, ?_, ?_, by simp, ?_⟩ <;> (simp only [↓vp, vv, ↓reduceIte, simprocAttr, coverS, refsF, RsF, RsH, netD, plnD, w1, wA, wB, eI, eO] <;> try rfl))) trivial
 ·rw [← hZl, List.take_length]
  have hAb := bI (n.segs.zip p.rates).length
  have hBb := bO (n.segs.zip p.rates).length
  rw [List.take_length] at hAb hBb
  have eA : sumI (fun x : Seg × Int => comeOf k (segFl x.1 x.2)) (n.segs.zip p.rates) = sumI (sIn k) (n.segs.zip p.rates) := rfl
  have eB : sumI (fun x : Seg × Int => leaveOf k (segFl x.1 x.2)) (n.segs.zip p.rates) = sumI (sOut k) (n.segs.zip p.rates) := rfl
  rw [eA, eB]
  generalize sumI (sIn k) (n.segs.zip p.rates) = A at hAb
  generalize sumI (sOut k) (n.segs.zip p.rates) = B at hBb
  simp (maxSteps:=500000) only [↓vp, vv, ↓reduceIte, simprocAttr, c144_5, c144_10, RsF, RsH, netD, plnD, hZl, Int.lt_irrefl]
  refine rng_loop n.ports.length (fun j => ⟨fr (RsG k [(8, di (A + sumI (qIn k) ((n.ports.zip p.ports).take j))), (9, di (B + sumI (qOut k) ((n.ports.zip p.ports).take j))), (64, .sl (n.ports.map Port.row)), (65, di n.ports.length), (66, di (j : Nat))]), RsI p⟩) (fun _ => True) (weak_eqA [] [(0, 4)] (RsG k [(8, di (A + sumI (qIn k) ((n.ports.zip p.ports).take 0))), (9, di (B + sumI (qOut k) ((n.ports.zip p.ports).take 0))), (64, .sl (n.ports.map Port.row)), (65, di n.ports.length), (66, di 0)]) (by refine ⟨?_, ?_, ?_, by simp, ?_⟩ <;> (simp only [↓vp, vv, ↓reduceIte, simprocAttr, coverS, refsF, RsG, RsI, plnD, List.take_zero, sumI, Int.add_zero] <;> try rfl))) trivial (fun j hj _ => ?_) (fun _ => ?_)
  ·have hj' : (j : Int) < n.ports.length := by omega
   have hjn := idx_nn j
   have hjr : j < p.ports.length := by omega
   have hjr' : (j : Int) < p.ports.length := by omega
   have w1 := idx_next (j := j) (by omega)
   have hgs : (n.ports.map Port.row).getD j [] = Port.row n.ports[j] := getD_map Port.row n.ports j hj
   have hgr := iRow_at p.ports j hjr
   have hx := zip_get hj hjr
   have hm := qb _ (List.mem_of_getElem? hx)
   have eI := sumI_tkR (qIn k) hx
   have eO := sumI_tkR (qOut k) hx
   have b1 := bQI j
   have b2 := bQO j
   have b3 := bQI (j + 1)
   have b4 := bQO (j + 1)
   generalize n.ports[j] = x at hgs hx eI eO hm
   generalize p.ports[j] = q at hgr hx eI eO hm
   rw [qIn_eq hk] at eI
   rw [qOut_eq hk] at eO
   dsimp only at hm
   have wn : IntKind.i64.wrap (0 - q) = -q := by rw [wrap_i (by omega)]; omega
   have ep : (if 0 < q then q else 0) = posI q := rfl
   have en : (if 0 < -q then -q else 0) = negI q := rfl
   have q2 : (x.node = k) = (x.node == k) := by simp
   cases c2 : (x.node == k) with
   | false =>
    simp only [q2, c2, if_true, if_false, Bool.false_eq_true, Int.add_zero] at eI eO
    simp (maxSteps:=500000) only [↓vp, vv, ↓reduceIte, simprocAttr, c144_8, c144_7, c144_6, RsG, RsI, plnD, hj', hjn, hjr', Int.toNat_natCast, hgs, hgr, c2, w1, Port.row]
    exact rng_next hj (weak_eqA [] [(0, 4)] (RsG k [(8, di (A + sumI (qIn k) ((n.ports.zip p.ports).take (j + 1)))), (9, di (B + sumI (qOut k) ((n.ports.zip p.ports).take (j + 1)))), (64, .sl (n.ports.map Port.row)), (65, di n.ports.length), (66, di (j + 1 : Nat))]) (by refine ⟨?_, ?_, ?_, by simp, ?_⟩ <;> (simp only [↓vp, vv, ↓reduceIte, simprocAttr, coverS, refsF, RsG, RsI, plnD, w1, eI, eO] <;> try rfl))) trivial
   | true =>
    simp only [q2, c2, if_true] at eI eO
    have w2 : IntKind.i64.wrap (A + sumI (qIn k) ((n.ports.zip p.ports).take j) + posI q) = A + sumI (qIn k) ((n.ports.zip p.ports).take (j + 1)) := by rw [eI, wrap_i (by omega)]; omega
    have w3 : IntKind.i64.wrap (B + sumI (qOut k) ((n.ports.zip p.ports).take j) + negI q) = B + sumI (qOut k) ((n.ports.zip p.ports).take (j + 1)) := by rw [eO, wrap_i (by omega)]; omega
    simp (maxSteps:=500000) only [↓vp, vv, ↓reduceIte, simprocAttr, c144_8, c144_7, c144_6, RsG, RsI, plnD, hj', hjn, hjr', Int.toNat_natCast, hgs, hgr, c2, wn, ep, en, w2, w3, w1, Port.row]
    exact rng_next hj (weak_eqA [] [(0, 4)] (RsG k [(8, di (A + sumI (qIn k) ((n.ports.zip p.ports).take (j + 1)))), (9, di (B + sumI (qOut k) ((n.ports.zip p.ports).take (j + 1)))), (64, .sl (n.ports.map Port.row)), (65, di n.ports.length), (66, di (j + 1 : Nat))]) (by refine ⟨?_, ?_, ?_, by simp, ?_⟩ <;> (simp only [↓vp, vv, ↓reduceIte, simprocAttr, coverS, refsF, RsG, RsI, plnD, w1, w2, w3] <;> try rfl))) trivial
  ·rw [← hYl, List.take_length]
   have eC : sumI (fun x : Port × Int => comeOf k (portFl x.1 x.2)) (n.ports.zip p.ports) = sumI (qIn k) (n.ports.zip p.ports) := rfl
   have eD : sumI (fun x : Port × Int => leaveOf k (portFl x.1 x.2)) (n.ports.zip p.ports) = sumI (qOut k) (n.ports.zip p.ports) := rfl
   rw [eC, eD]
   simp (maxSteps:=500000) only [↓vp, vv, ↓reduceIte, simprocAttr, c144_8, c144_9, r144, RsG, RsI, plnD, hYl, Int.lt_irrefl, Pu]
theorem bRow_dR (Y : List Bool) (k : Nat) (h : k < Y.length) : (Y.map bRow).getD k [] = [db (Y.getD k false)] := by
 rw [getD_map bRow Y k h, List.getD_eq_getElem?_getD, List.getElem?_eq_getElem h]; rfl
def nxt (E : List (Seg × Int)) (th : List Bool) (i : Nat) : Int := match (List.range i).find? (pickB E th) with
 | some k => k
 | none => -1
theorem nxt_0 (E : List (Seg × Int)) (th : List Bool) : nxt E th 0 = -1 := rfl
theorem nxt_succ (E : List (Seg × Int)) (th : List Bool) (i : Nat) : nxt E th (i + 1) = if nxt E th i < 0 then (if pickB E th i = true then (i : Int) else nxt E th i) else nxt E th i := by
 unfold nxt
 rw [List.range_succ, List.find?_append]
 cases h : (List.range i).find? (pickB E th) with
 | some k =>
  simp only [Option.some_or]
  rw [if_neg (by omega)]
 | none =>
  simp only [Option.none_or]
  rw [if_pos (by omega), List.find?_cons, List.find?_nil]
  cases pickB E th i <;> rfl
theorem nxt_b (E : List (Seg × Int)) (th : List Bool) (i : Nat) : -1 ≤ nxt E th i ∧ nxt E th i < i := by
 unfold nxt
 cases h : (List.range i).find? (pickB E th) with
 | some k =>
  have := List.mem_of_find?_eq_some h
  have := List.mem_range.1 this
  dsimp only
  omega
 | none => dsimp only; omega
def fre (E : List (Seg × Int)) (th : List Bool) (i j : Nat) : Bool := !(th.getD i false) && !((E.take j).any (blk th i))
theorem fre_succ {E : List (Seg × Int)} {th : List Bool} {i j : Nat} {x : Seg × Int} (h : E[j]? = some x) : fre E th i (j + 1) = (fre E th i j && !(blk th i x)) := by
 have hj : j < E.length := by
  rcases Nat.lt_or_ge j E.length with h1 | h1
  ·exact h1
  ·rw [List.getElem?_eq_none h1] at h; cases h
 unfold fre
 rw [← List.take_append_getElem hj, List.any_append]
 rw [List.getElem?_eq_getElem hj] at h
 cases h
 simp [Bool.and_assoc]
theorem fre_all {E : List (Seg × Int)} {th : List Bool} {i : Nat} (hi : i < th.length) : fre E th i E.length = pickB E th i := by
 unfold fre pickB
 rw [List.take_length]
 have e : th.getD i true = th.getD i false := by rw [List.getD_eq_getElem?_getD, List.getD_eq_getElem?_getD, List.getElem?_eq_getElem hi]; rfl
 rw [e]
 cases th.getD i false <;> rfl
theorem blk_ne {th : List Bool} {i : Nat} {s : Seg} {r : Int} (h : (r == 0) = false) : (!(blk th i (s, r))) = ((toOf (s, r) != (i : Int)) || th.getD (frOf (s, r)).toNat false) := by
 have e : blk th i (s, r) = if (toOf (s, r) == (i : Int)) = true then !(th.getD (frOf (s, r)).toNat false) else false := by
  unfold blk
  dsimp only
  rw [h, if_neg (by simp)]
  rfl
 rw [e]
 cases c : (toOf (s, r) == (i : Int)) with
 | true =>
  have : (toOf (s, r) != (i : Int)) = false := by rw [bne, c]; rfl
  rw [this, if_pos rfl, Bool.false_or, Bool.not_not]
 | false =>
  have : (toOf (s, r) != (i : Int)) = true := by rw [bne, c]; rfl
  rw [this, if_neg (by simp), Bool.true_or]
  rfl
theorem blk_z {th : List Bool} {i : Nat} {s : Seg} {r : Int} (h : (r == 0) = true) : blk th i (s, r) = false := by
 unfold blk
 dsimp only
 rw [h, if_pos rfl]
theorem nxt_none {E : List (Seg × Int)} {th : List Bool} {N : Nat} (h : nxt E th N < 0) : ∀ j, j < N → pickB E th j = false := fun j hj => by
 unfold nxt at h
 cases e : (List.range N).find? (pickB E th) with
 | some k => rw [e] at h; dsimp only at h; omega
 | none =>
  have := List.find?_eq_none.1 e j (List.mem_range.2 hj)
  simpa using this
theorem nxt_some {E : List (Seg × Int)} {th : List Bool} {N : Nat} (h : ¬ nxt E th N < 0) : ∃ k : Nat, nxt E th N = k ∧ k < N ∧ pickB E th k = true ∧ ∀ j, j < k → pickB E th j = false := by
 unfold nxt at h ⊢
 cases e : (List.range N).find? (pickB E th) with
 | some k =>
  rw [List.find?_range_eq_some] at e
  exact ⟨k, rfl, by simpa using e.2.1, e.1, fun j hj => by have := e.2.2 j hj; simpa using this⟩
 | none => rw [e] at h; dsimp only at h; omega
theorem pick_get {E : List (Seg × Int)} {th : List Bool} {k : Nat} (h : pickB E th k = true) : th[k]? = some false := by
 unfold pickB at h
 split at h
 ·cases h
 ·rename_i h1; exact getD_none (by simpa using h1)
theorem fre_0 (E : List (Seg × Int)) (th : List Bool) (i : Nat) : fre E th i 0 = !(th.getD i false) := by
 unfold fre
 rw [List.take_zero, List.any_nil]
 simp
def RoF (N : Nat) (out : List Nat) (l : List (Nat × D)) : List (Nat × D) := (2, .ptr (0, 2) 0 0 0) :: (3, .ptr (0, 3) 0 0 0) :: (5, .own (0, 1000) out.length 0 out.length) :: (6, .own (0, 17) 0 0 N) :: l
def RoH (n : Net) (p : Pln) (th : List Bool) (out : List Nat) : Hp := (((Hp.none.put (0, 1000) ⟨out.length, 1, out.map nRow⟩).put (0, 17) ⟨0, 1, th.map bRow⟩).put (0, 3) ⟨0, 3, [plnD p]⟩).put (0, 2) ⟨0, 6, [netD n]⟩
theorem rep_bR (k : Nat) : List.replicate k [db false] = (List.replicate k false).map bRow := by rw [List.map_replicate]; rfl
structure OrdIn (n : Net) (p : Pln) : Prop where
 nl : n.nodes.length ≤ 24
 sl : n.segs.length ≤ 32
 rl : p.rates.length = n.segs.length
 e : EdgeIn (n.segs.zip p.rates) n.nodes.length
set_option maxHeartbeats 16000000 in
theorem rorder_c (n : Net) (p : Pln) (h : OrdIn n p) (nn : Nm) : CallsA Try.prog 128 [n.enc, p.enc] Hp.none nn (Pu (.sl ((ordB n p).map nRow)) Hp.none) := by
 obtain ⟨code, h1, h2⟩ := c128_ok
 refine callsA_of TRs_ok mixed (N := fun t => (0, t)) Try.func128 h1 h2 r128_ok [] false js_nil js_nil' (by simp [Try.f128]) ?_
 have hnl := h.nl
 have hsl := h.sl
 have hrl := h.rl
 have hEl : (n.segs.zip p.rates).length = n.segs.length := by rw [List.length_zip]; omega
 have z1 : (1 : Int) * n.nodes.length ≤ 281474976710656 := by omega
 have z2 : (n.nodes.length : Int) ≤ 4611686018427387904 := by omega
 have z3 := idx_nn n.nodes.length
 have hB : ordB n p = ordL (n.segs.zip p.rates) n.nodes.length (List.replicate n.nodes.length false) [] := rfl
 simp (maxSteps:=500000) only [↓vp, vv, ↓reduceIte, simprocAttr, c128, Net.enc, Pln.enc, plnD, z1, z2, z3, Int.toNat_natCast, rep_bR]
 refine ⟨fun m st => ∃ th out, cntF th = m ∧ th.length = n.nodes.length ∧ ordL (n.segs.zip p.rates) m th out = ordB n p ∧ out.length + m = n.nodes.length ∧ st = ⟨fr (RoF n.nodes.length out []), RoH n p th out⟩, ⟨n.nodes.length, _, (weak_own 5 (0, 1000) 1 (by simp only [↓vp, vv, ↓reduceIte, simprocAttr, ]) (by simp only [↓vp, vv, ↓reduceIte, simprocAttr, ])).trans (weak_eqA [] [(0, 2), (0, 3), (0, 17), (0, 1000)] (RoF n.nodes.length [] []) (by refine ⟨?_, ?_, ?_, by simp, ?_⟩ <;> (simp only [↓vp, vv, ↓reduceIte, simprocAttr, coverS, refsF, RoF, RoH, netD, plnD, bRow] <;> try rfl))), List.replicate n.nodes.length false, [], (init_inv (n.segs.zip p.rates) n.nodes.length).2, by simp, hB.symm, by simp, rfl⟩, ?_⟩
 rintro m st ⟨th, out, hm, hth, hord, hout, rfl⟩
 have hE := h.e
 have hnx := nxt_b (n.segs.zip p.rates) th
 simp (maxSteps:=500000) only [↓vp, vv, ↓reduceIte, simprocAttr, c128_10, RoF, RoH, netD, plnD]
 refine rng_loop n.nodes.length (fun i => ⟨fr (RoF n.nodes.length out [(7, di (nxt (n.segs.zip p.rates) th i)), (20, di n.nodes.length), (21, di (i : Nat))]), RoH n p th out⟩) (fun _ => True) (weak_eqA [] [(0, 2), (0, 3), (0, 17), (0, 1000)] (RoF n.nodes.length out [(7, di (nxt (n.segs.zip p.rates) th 0)), (20, di n.nodes.length), (21, di 0)]) (by refine ⟨?_, ?_, ?_, by simp, ?_⟩ <;> (simp only [↓vp, vv, ↓reduceIte, simprocAttr, coverS, refsF, RoF, RoH, netD, plnD, bRow, nRow, nxt_0] <;> try rfl))) trivial (fun i hi _ => ?_) (fun _ => ?_)
 ·have hi' : (i : Int) < n.nodes.length := by omega
  have hin := idx_nn i
  have wi := idx_next (j := i) (by omega)
  have hit : i < th.length := by omega
  have gi := bRow_dR th i hit
  have f0 := fre_0 (n.segs.zip p.rates) th i
  simp (maxSteps:=500000) only [↓vp, vv, ↓reduceIte, simprocAttr, c128_7, c128_6, RoF, RoH, netD, plnD, hi, hi', hin, hit, hth, gi, Int.toNat_natCast]
  refine rng_loop n.segs.length (fun j => ⟨fr (RoF n.nodes.length out [(7, di (nxt (n.segs.zip p.rates) th i)), (8, di i), (9, db (fre (n.segs.zip p.rates) th i j)), (20, di n.nodes.length), (21, di i), (30, .sl (n.segs.map Seg.row)), (31, di n.segs.length), (32, di (j : Nat))]), RoH n p th out⟩) (fun _ => True) (weak_eqA [] [(0, 2), (0, 3), (0, 17), (0, 1000)] (RoF n.nodes.length out [(7, di (nxt (n.segs.zip p.rates) th i)), (8, di i), (9, db (fre (n.segs.zip p.rates) th i 0)), (20, di n.nodes.length), (21, di i), (30, .sl (n.segs.map Seg.row)), (31, di n.segs.length), (32, di 0)]) (by refine ⟨?_, ?_, ?_, by simp, ?_⟩ <;> (simp only [↓vp, vv, ↓reduceIte, simprocAttr, coverS, refsF, RoF, RoH, netD, plnD, bRow, nRow, f0] <;> try rfl))) trivial (fun j hj _ => ?_) (fun _ => ?_)
  ·have hj' : (j : Int) < n.segs.length := by omega
   have hjn := idx_nn j
   have hjr : j < p.rates.length := by omega
   have hjr' : (j : Int) < p.rates.length := by omega
   have w1 := idx_next (j := j) (by omega)
   have hgs : (n.segs.map Seg.row).getD j [] = Seg.row n.segs[j] := getD_map Seg.row n.segs j hj
   have hgr := iRow_at p.rates j hjr
   have hx := zip_get hj hjr
   have hf := fre_succ (th := th) (i := i) hx
   have hm2 := hE _ (List.mem_of_getElem? hx)
   generalize n.segs[j] = s at hgs hf hm2
   generalize p.rates[j] = r at hgr hf hm2
   have hs1 : segOf1 [ds s.name, di s.fr, di s.to, di s.cap, di s.resist, di s.wave, .sl (s.points.map Pt.row)] = some s := segOf1_row s
   generalize fre (n.segs.zip p.rates) th i j = f at hf
   cases c1 : (r == (0 : Int)) with
   | true =>
    rw [blk_z c1, Bool.not_false, Bool.and_true] at hf
    have c1b : (r != (0 : Int)) = false := by rw [bne, c1]; rfl
    simp (maxSteps:=500000) only [↓vp, vv, ↓reduceIte, simprocAttr, c128_3, c128_2, c128_1, RoF, RoH, netD, plnD, hj, hj', hjn, hjr', Int.toNat_natCast, hgs, hgr, c1b, w1, Seg.row]
    exact rng_next hj (weak_eqA [] [(0, 2), (0, 3), (0, 17), (0, 1000)] (RoF n.nodes.length out [(7, di (nxt (n.segs.zip p.rates) th i)), (8, di i), (9, db (fre (n.segs.zip p.rates) th i (j + 1))), (20, di n.nodes.length), (21, di i), (30, .sl (n.segs.map Seg.row)), (31, di n.segs.length), (32, di (j + 1 : Nat))]) (by refine ⟨?_, ?_, ?_, by simp, ?_⟩ <;> (simp only [↓vp, vv, ↓reduceIte, simprocAttr, coverS, refsF, RoF, RoH, netD, plnD, bRow, nRow, w1, hf] <;> try rfl))) trivial
   | false =>
    rw [blk_ne c1] at hf
    have c1b : (r != (0 : Int)) = true := by rw [bne, c1]; rfl
    have hfr : 0 ≤ frOf (s, r) ∧ frOf (s, r) < n.nodes.length := by unfold frOf; dsimp only at hm2 ⊢; split <;> omega
    have q1 := hfr.1
    have q2 := hfr.2
    have q3 : (frOf (s, r)).toNat < n.nodes.length := by omega
    have gf := bRow_dR th (frOf (s, r)).toNat (by omega)
    generalize hA : frOf (s, r) = a at hf hfr q1 q2 q3 gf
    cases f <;> cases c2 : (toOf (s, r) != (i : Int)) <;> cases c3 : th.getD a.toNat false
    all_goals
     rw [c3] at gf
     simp only [c2, c3, Bool.true_and, Bool.false_and, Bool.true_or, Bool.false_or] at hf
     simp (maxSteps:=500000) only [↓vp, vv, ↓reduceIte, simprocAttr, c128_3, c128_2, c128_1, TRs, selEnds, RoF, RoH, netD, plnD, hj, hj', hjn, hjr', Int.toNat_natCast, hgs, hgr, hs1, c1b, c2, hA, q1, q2, q3, hth, gf, w1, Seg.row]
     exact rng_next hj (weak_eqA [] [(0, 2), (0, 3), (0, 17), (0, 1000)] (RoF n.nodes.length out [(7, di (nxt (n.segs.zip p.rates) th i)), (8, di i), (9, db (fre (n.segs.zip p.rates) th i (j + 1))), (20, di n.nodes.length), (21, di i), (30, .sl (n.segs.map Seg.row)), (31, di n.segs.length), (32, di (j + 1 : Nat))]) (by refine ⟨?_, ?_, ?_, by simp, ?_⟩ <;> (simp only [↓vp, vv, ↓reduceIte, simprocAttr, coverS, refsF, RoF, RoH, netD, plnD, bRow, nRow, w1, hf] <;> try rfl))) trivial
  ·have hfa : fre (n.segs.zip p.rates) th i n.segs.length = pickB (n.segs.zip p.rates) th i := by rw [← hEl]; exact fre_all hit
   have hs2 := nxt_succ (n.segs.zip p.rates) th i
   have hb := hnx i
   generalize hv : nxt (n.segs.zip p.rates) th i = v at *
   cases c4 : pickB (n.segs.zip p.rates) th i <;> cases c5 : decide (v < 0)
   all_goals
    rw [c4] at hfa hs2
    have c5' := c5
    simp only [decide_eq_true_eq, decide_eq_false_iff_not] at c5'
    simp only [c5', if_true, if_false, Bool.false_eq_true] at hs2
    simp (maxSteps:=500000) only [↓vp, vv, ↓reduceIte, simprocAttr, c128_3, c128_4, c128_5, RoF, RoH, netD, plnD, hfa, c5, wi, Int.lt_irrefl]
    exact rng_next hi (weak_eqA [] [(0, 2), (0, 3), (0, 17), (0, 1000)] (RoF n.nodes.length out [(7, di (nxt (n.segs.zip p.rates) th (i + 1))), (20, di n.nodes.length), (21, di (i + 1 : Nat))]) (by refine ⟨?_, ?_, ?_, by simp, ?_⟩ <;> (simp only [↓vp, vv, ↓reduceIte, simprocAttr, coverS, refsF, RoF, RoH, netD, plnD, bRow, nRow, hs2, wi] <;> try rfl))) trivial
 ·cases c6 : decide (nxt (n.segs.zip p.rates) th n.nodes.length < 0) with
  | true =>
   have h0 := nxt_none (of_decide_eq_true c6)
   have he : ordL (n.segs.zip p.rates) (cntF th) th out = out := ord_end fun j hj => h0 j (by omega)
   rw [← hm, he] at hord
   have tk : (out.map nRow).take out.length = out.map nRow := List.take_of_length_le (by simp)
   rw [← hord]
   simp (maxSteps:=500000) only [↓vp, vv, ↓reduceIte, simprocAttr, c128_7, c128_9, c128_8, r128, RoF, RoH, netD, plnD, Int.lt_irrefl, c6, tk, Pu]
   exact fun x _ d hd => by rw [List.mem_singleton.1 hd]; rfl
  | false =>
   obtain ⟨k, hk, hkN, hpk, h0⟩ := nxt_some (of_decide_eq_false c6)
   rw [hk] at c6
   have hkn := idx_nn k
   have hkN' : (k : Int) < n.nodes.length := by omega
   have hkt : k < th.length := by omega
   have gk := bRow_dR th k hkt
   have hc := cntF_set th k (pick_get hpk)
   have hop : ordL (n.segs.zip p.rates) (cntF th) th out = _ := ord_pick h0 hpk
   rw [← hm, hop] at hord
   have eS : (th.map bRow).set k [db true] = (th.set k true).map bRow := (List.map_set ..).symm
   have y1 : (out.length + 1) * 8 ≤ 140737488355328 := by omega
   have y2 : out.length + 1 ≤ 4611686018427387904 := by omega
   simp (maxSteps:=500000) only [↓vp, vv, ↓reduceIte, simprocAttr, c128_7, c128_9, c128_8, RoF, RoH, netD, plnD, Int.lt_irrefl, hk, c6, hkn, hkN', hkN, hkt, hth, gk, eS, y1, y2, Int.toNat_natCast]
   exact ⟨cntF (th.set k true), _, by omega, (weak_eqA [] [(0, 2), (0, 3), (0, 17), (0, 1000)] (RoF n.nodes.length (out ++ [k]) []) (by refine ⟨?_, ?_, ?_, by simp, ?_⟩ <;> (simp only [↓vp, vv, ↓reduceIte, simprocAttr, coverS, refsF, RoF, RoH, netD, plnD, bRow, nRow, List.map_append, List.length_append, List.length_cons, List.length_nil] <;> try rfl))), th.set k true, out ++ [k], rfl, by rw [List.length_set]; exact hth, hord, by rw [List.length_append]; simp; omega, rfl⟩
theorem bal_nodes {n : Net} (hv : NetV n) (p : Pln) : amt comeOf (flowsOf n p) = amt leaveOf (flowsOf n p) ↔ ∀ v : Nat, v < n.nodes.length → sumI (comeOf (v : Int)) (flowsOf n p) = sumI (leaveOf (v : Int)) (flowsOf n p) := by
 rw [bal_iff]
 have sub : ∀ v : Int, sumI (netOf v) (flowsOf n p) = sumI (comeOf v) (flowsOf n p) - sumI (leaveOf v) (flowsOf n p) := fun v => by
  have e := sumI_sub (comeOf v) (leaveOf v) (flowsOf n p)
  rw [sumI_congr fun t _ => come_leave v t] at e
  exact e.symm
 have hnl := hv.nl
 refine ⟨fun h v hv2 => ?_, fun h v hv2 => ?_⟩
 ·have := h v (by omega)
  rw [sub] at this
  omega
 ·rcases Nat.lt_or_ge v n.nodes.length with h1 | h1
  ·rw [sub, h v h1]; omega
  ·refine sumI_zero fun t ht => ?_
   have hin : t.1 < n.nodes.length ∧ t.2.1 < n.nodes.length := by
    rcases List.mem_append.1 ht with ht | ht
    ·rw [← List.map_uncurry_zip_eq_zipWith] at ht
     obtain ⟨x, hx, rfl⟩ := List.mem_map.1 ht
     have := hv.se x.1 (List.of_mem_zip hx).1
     exact ⟨this.1.2, this.2.1.2⟩
    ·rw [← List.map_uncurry_zip_eq_zipWith] at ht
     obtain ⟨x, hx, rfl⟩ := List.mem_map.1 ht
     have := hv.pe x.1 (List.of_mem_zip hx).1
     exact ⟨show (-1 : Int) < _ by omega, this.2⟩
   unfold netOf
   rw [if_neg (by omega), if_neg (by omega)]
   rfl
theorem ordB_le {n : Net} (hv : NetV n) (p : Pln) : (ordB n p).length ≤ n.nodes.length := by
 obtain ⟨th, h, _⟩ := ord_inv (E := n.segs.zip p.rates) (edge_ok p hv)
 have := h.cnt
 unfold ordB
 omega
def RkF (l : List (Nat × D)) : List (Nat × D) := (2, .ptr (0, 2) 0 0 0) :: (3, .ptr (0, 3) 0 0 0) :: l
def selS16 : List D → Option (Prop × D)
 | [.agg a, .agg b, .v (.int .i64 k)] => match netOf1 a, plnOf1 b with
  | some n, some p => some (FlOk n p ∧ 0 ≤ k, .tup [di (sumI (comeOf k) (flowsOf n p)), di (sumI (leaveOf k) (flowsOf n p))])
  | _, _ => Option.none
 | _ => Option.none
def TRk16 : Tbl := tc 97 (rowPu (selNet fun n => di (checkI n))) (tc 144 (rowPu selS16) (tc 128 (rowPu (selNP OrdIn fun n p => .sl ((ordB n p).map nRow))) T0))
theorem TRk16_ok : TblOk Try.prog TRk16 := tc_netf f97_ok (fun n hz nn => rcheck_c n hz nn) (tc_pu f144_ok (fun args pre d hs hp nn => by
 unfold selS16 at hs
 split at hs
 ·split at hs
  ·rename_i e1 e2
   cases hs
   rw [netOf1_eq e1, plnOf1_eq e2]
   exact rsums_c _ _ hp.1 _ hp.2 nn
  ·cases hs
 ·cases hs) (tc_np f128_ok (fun n p h nn => rorder_c n p h nn) (T0_ok _)))
set_option maxHeartbeats 16000000 in
theorem rchk16_c (n : Net) (p : Pln) (hz : NetSz n) (hq : PlnSz p) (nn : Nm) : CallsA Try.prog 100 [n.enc, p.enc] Hp.none nn (Pu (di (fckI n p)) Hp.none) := by
 obtain ⟨code, h1, h2⟩ := c100_ok
 refine callsA_of TRk16_ok mixed (N := fun t => (0, t)) Try.func100 h1 h2 r100_ok [] false js_nil js_nil' (by simp [Try.f100]) ?_
 have hn1 := netOf1_x n
 have hp1 := plnOf1_x p
 by_cases a0 : checkI n = 0
 ·have b0 : (checkI n != 0) = false := by simp [a0]
  have hv := check0 a0
  cases a1 : lenBad n p with
  | true =>
   have hc : fckI n p = 9 := by unfold fckI; rw [if_pos a0, if_pos a1]
   unfold lenBad at a1
   cases c1 : ((p.rates.length : Int) != n.segs.length) with
   | true => simp (maxSteps:=500000) only [↓vp, vv, ↓reduceIte, simprocAttr, c100, c100_15, r100, TRk16, selNet, Net.enc, Pln.enc, netD, plnD, hn1, hz, a0, bne_self_eq_false, c1, hc, Pu]
   | false =>
    rw [c1] at a1
    cases c2 : ((p.ports.length : Int) != n.ports.length) with
    | true => simp (maxSteps:=500000) only [↓vp, vv, ↓reduceIte, simprocAttr, c100, c100_15, r100, TRk16, selNet, Net.enc, Pln.enc, netD, plnD, hn1, hz, a0, bne_self_eq_false, c1, c2, hc, Pu]
    | false =>
     rw [c2] at a1
     have c3 : ((p.pumps.length : Int) != n.sts.length) = true := by simpa using a1
     simp (maxSteps:=500000) only [↓vp, vv, ↓reduceIte, simprocAttr, c100, c100_15, r100, TRk16, selNet, Net.enc, Pln.enc, netD, plnD, hn1, hz, a0, bne_self_eq_false, c1, c2, c3, hc, Pu]
  | false =>
   obtain ⟨l1, l2, l3⟩ := len_ok a1
   have c1 : ((p.rates.length : Int) != n.segs.length) = false := by simp [l1]
   have c2 : ((p.ports.length : Int) != n.ports.length) = false := by simp [l2]
   have c3 : ((p.pumps.length : Int) != n.sts.length) = false := by simp [l3]
   generalize hb : (n.segs.zip p.rates).any rateBad = b
   have hc : fckI n p = if b = true then 1 else if p.ports.any portBadR = true then 1 else if amt comeOf (flowsOf n p) = amt leaveOf (flowsOf n p) then (if (ordB n p).length < n.nodes.length then 13 else 0) else 12 := by unfold fckI; rw [if_pos a0, a1, if_neg (by simp), hb]
   simp (maxSteps:=500000) only [↓vp, vv, ↓reduceIte, simprocAttr, c100, c100_15, c100_14, TRk16, selNet, Net.enc, Pln.enc, netD, plnD, hn1, hz, a0, bne_self_eq_false, c1, c2, c3]
   have hsl := hv.sl
   refine rng_loop p.rates.length (fun j => ⟨fr (RkF [(45, .sl (p.rates.map iRow)), (46, di p.rates.length), (47, di (j : Nat))]), HF n p⟩) (fun j => ((n.segs.zip p.rates).drop j).any rateBad = b) (weak_eqA [] [(0, 2), (0, 3)] (RkF [(45, .sl (p.rates.map iRow)), (46, di p.rates.length), (47, di 0)]) (by refine ⟨?_, ?_, ?_, by simp, ?_⟩ <;> (simp only [↓vp, vv, ↓reduceIte, simprocAttr, coverS, refsF, RkF, HF, netD, plnD] <;> try rfl))) hb (fun j hj he => ?_) (fun he => ?_)
   ·have hj' : (j : Int) < p.rates.length := by omega
    have hjs : j < n.segs.length := by omega
    have hjs' : (j : Int) < n.segs.length := by omega
    have hjn := idx_nn j
    have w1 := idx_next (j := j) (by omega)
    have hg := getD_map Seg.row n.segs j hjs
    have hg2 := iRow_at p.rates j hj
    have hzl : j < (n.segs.zip p.rates).length := by rw [List.length_zip]; omega
    obtain ⟨hf, ht⟩ := drop_any hzl he
    have hx : (n.segs.zip p.rates)[j] = (n.segs[j], p.rates[j]) := List.getElem_zip
    rw [hx] at hf ht
    have hcp := hv.se _ (List.getElem_mem hjs)
    generalize n.segs[j] = s at hg hf ht hcp
    generalize p.rates[j] = r at hg2 hf ht
    have hm : 1 ≤ most s ∧ most s ≤ 1000 := by unfold most; constructor <;> split <;> omega
    have hm2 : (if s.cap < 1000 then s.cap else 1000) = most s := rfl
    have wn : IntKind.i64.wrap (0 - most s) = -most s := by rw [wrap_i (by omega)]; omega
    cases d1 : decide (r < -most s) with
    | true =>
     have dw : withB r (most s) = false := by unfold withB; rw [if_neg (by simp at d1; omega)]
     have e1 := hf (by unfold rateBad; rw [dw]; rfl)
     rw [e1] at hc
     have hc3 : fckI n p = 1 := hc
     simp (maxSteps:=500000) only [↓vp, vv, ↓reduceIte, simprocAttr, c100_3, c100_2, c100_1, r100, RkF, HF, netD, plnD, hj', hjs', hjn, Int.toNat_natCast, hg, hg2, Seg.row, hm2, wn, d1, hc3, Pu]
    | false =>
     cases d2 : decide (most s < r) with
     | true =>
      have dw : withB r (most s) = false := by unfold withB; rw [if_pos (by simp at d1; omega)]; simp at d2 ⊢; omega
      have e1 := hf (by unfold rateBad; rw [dw]; rfl)
      rw [e1] at hc
      have hc3 : fckI n p = 1 := hc
      simp (maxSteps:=500000) only [↓vp, vv, ↓reduceIte, simprocAttr, c100_3, c100_2, c100_1, r100, RkF, HF, netD, plnD, hj', hjs', hjn, Int.toNat_natCast, hg, hg2, Seg.row, hm2, wn, d1, d2, hc3, Pu]
     | false =>
      have dw : withB r (most s) = true := by unfold withB; rw [if_pos (by simp at d1; omega)]; simp at d2 ⊢; omega
      simp (maxSteps:=500000) only [↓vp, vv, ↓reduceIte, simprocAttr, c100_3, c100_2, c100_1, RkF, HF, netD, plnD, hj', hjs', hjn, Int.toNat_natCast, hg, hg2, Seg.row, hm2, wn, d1, d2, w1]
      exact rng_next hj (weak_eqA [] [(0, 2), (0, 3)] (RkF [(45, .sl (p.rates.map iRow)), (46, di p.rates.length), (47, di (j + 1 : Nat))]) (by refine ⟨?_, ?_, ?_, by simp, ?_⟩ <;> (simp only [↓vp, vv, ↓reduceIte, simprocAttr, coverS, refsF, RkF, HF, netD, plnD, w1, Seg.row] <;> try rfl))) (ht (by unfold rateBad; rw [dw]; rfl))
   ·have e1 : b = false := drop_any_end (by rw [List.length_zip]; omega) he
    rw [e1] at hc hb
    simp only [Bool.false_eq_true, if_false] at hc
    generalize hb2 : p.ports.any portBadR = b2 at hc
    have hql := hv.ql
    simp (maxSteps:=500000) only [↓vp, vv, ↓reduceIte, simprocAttr, c100_3, c100_13, RkF, HF, netD, plnD, Int.lt_irrefl]
    refine rng_loop p.ports.length (fun j => ⟨fr (RkF [(70, .sl (p.ports.map iRow)), (71, di p.ports.length), (72, di (j : Nat))]), HF n p⟩) (fun j => (p.ports.drop j).any portBadR = b2) (weak_eqA [] [(0, 2), (0, 3)] (RkF [(70, .sl (p.ports.map iRow)), (71, di p.ports.length), (72, di 0)]) (by refine ⟨?_, ?_, ?_, by simp, ?_⟩ <;> (simp only [↓vp, vv, ↓reduceIte, simprocAttr, coverS, refsF, RkF, HF, netD, plnD] <;> try rfl))) hb2 (fun j hj he => ?_) (fun he => ?_)
    ·have hj' : (j : Int) < p.ports.length := by omega
     have hjn := idx_nn j
     have w1 := idx_next (j := j) (by omega)
     have hg2 := iRow_at p.ports j hj
     obtain ⟨hf, ht⟩ := drop_any hj he
     generalize p.ports[j] = r at hg2 hf ht
     cases d1 : decide (r < -1000) with
     | true =>
      have dw : withB r 1000 = false := by unfold withB; rw [if_neg (by simp at d1; omega)]
      have e1 := hf (by unfold portBadR; rw [dw]; rfl)
      rw [e1] at hc
      have hc3 : fckI n p = 1 := hc
      simp (maxSteps:=500000) only [↓vp, vv, ↓reduceIte, simprocAttr, c100_6, c100_5, c100_4, r100, RkF, HF, netD, plnD, hj', hjn, Int.toNat_natCast, hg2, d1, hc3, Pu]
     | false =>
      cases d2 : decide (1000 < r) with
      | true =>
       have dw : withB r 1000 = false := by unfold withB; rw [if_pos (by simp at d1; omega)]; simp at d2 ⊢; omega
       have e1 := hf (by unfold portBadR; rw [dw]; rfl)
       rw [e1] at hc
       have hc3 : fckI n p = 1 := hc
       simp (maxSteps:=500000) only [↓vp, vv, ↓reduceIte, simprocAttr, c100_6, c100_5, c100_4, r100, RkF, HF, netD, plnD, hj', hjn, Int.toNat_natCast, hg2, d1, d2, hc3, Pu]
      | false =>
       have dw : withB r 1000 = true := by unfold withB; rw [if_pos (by simp at d1; omega)]; simp at d2 ⊢; omega
       simp (maxSteps:=500000) only [↓vp, vv, ↓reduceIte, simprocAttr, c100_6, c100_5, c100_4, RkF, HF, netD, plnD, hj', hjn, Int.toNat_natCast, hg2, d1, d2, w1]
       exact rng_next hj (weak_eqA [] [(0, 2), (0, 3)] (RkF [(70, .sl (p.ports.map iRow)), (71, di p.ports.length), (72, di (j + 1 : Nat))]) (by refine ⟨?_, ?_, ?_, by simp, ?_⟩ <;> (simp only [↓vp, vv, ↓reduceIte, simprocAttr, coverS, refsF, RkF, HF, netD, plnD, w1] <;> try rfl))) (ht (by unfold portBadR; rw [dw]; rfl))
    ·have e2 : b2 = false := drop_any_end rfl he
     rw [e2] at hc hb2
     simp only [Bool.false_eq_true, if_false] at hc
     have hfl := fl_ok hv l1 l2 hb hb2
     have hord : OrdIn n p := ⟨hv.nl.2, hv.sl, l1, edge_ok p hv⟩
     have hbal := bal_nodes hv p
     have hole := ordB_le hv p
     have hnl := hv.nl
     simp (maxSteps:=500000) only [↓vp, vv, ↓reduceIte, simprocAttr, c100_6, c100_12, RkF, HF, netD, plnD, Int.lt_irrefl]
     refine rng_loop n.nodes.length (fun j => ⟨fr (RkF [(85, di n.nodes.length), (86, di (j : Nat))]), HF n p⟩) (fun j => ∀ v : Nat, v < j → sumI (comeOf (v : Int)) (flowsOf n p) = sumI (leaveOf (v : Int)) (flowsOf n p)) (weak_eqA [] [(0, 2), (0, 3)] (RkF [(85, di n.nodes.length), (86, di 0)]) (by refine ⟨?_, ?_, ?_, by simp, ?_⟩ <;> (simp only [↓vp, vv, ↓reduceIte, simprocAttr, coverS, refsF, RkF, HF, netD, plnD] <;> try rfl))) (fun v hv => absurd hv (by omega)) (fun j hj hP => ?_) (fun hP => ?_)
     ·have hj' : (j : Int) < n.nodes.length := by omega
      have hjn := idx_nn j
      have w1 := idx_next (j := j) (by omega)
      cases d1 : (sumI (comeOf (j : Int)) (flowsOf n p) != sumI (leaveOf (j : Int)) (flowsOf n p)) with
      | true =>
       have hne : ¬ amt comeOf (flowsOf n p) = amt leaveOf (flowsOf n p) := fun e => by
        have := hbal.1 e j hj
        rw [bne_iff_ne] at d1
        exact d1 this
       rw [if_neg hne] at hc
       simp (maxSteps:=500000) only [↓vp, vv, ↓reduceIte, simprocAttr, c100_9, c100_8, r100, TRk16, selS16, RkF, HF, netD, plnD, hj', hjn, hn1, hp1, hfl, d1, hc, Pu]
      | false =>
       have heq : sumI (comeOf (j : Int)) (flowsOf n p) = sumI (leaveOf (j : Int)) (flowsOf n p) := by simpa using d1
       simp (maxSteps:=500000) only [↓vp, vv, ↓reduceIte, simprocAttr, c100_9, c100_8, c100_7, TRk16, selS16, RkF, HF, netD, plnD, hj', hjn, hn1, hp1, hfl, d1, w1]
       exact rng_next hj (weak_eqA [] [(0, 2), (0, 3)] (RkF [(85, di n.nodes.length), (86, di (j + 1 : Nat))]) (by refine ⟨?_, ?_, ?_, by simp, ?_⟩ <;> (simp only [↓vp, vv, ↓reduceIte, simprocAttr, coverS, refsF, RkF, HF, netD, plnD, w1] <;> try rfl))) (fun v hv => by
        rcases Nat.lt_or_ge v j with h | h
        ·exact hP v h
        ·have : v = j := by omega
         subst this
         exact heq)
     ·rw [if_pos (hbal.2 hP)] at hc
      by_cases a6 : (ordB n p).length < n.nodes.length
      ·rw [if_pos a6] at hc
       have a7 : (((ordB n p).length : Int) != n.nodes.length) = true := by rw [bne_iff_ne]; omega
       simp (maxSteps:=500000) only [↓vp, vv, ↓reduceIte, simprocAttr, c100_9, c100_11, c100_10, r100, TRk16, selNP, RkF, HF, netD, plnD, Int.lt_irrefl, hn1, hp1, hord, a7, hc, Pu]
      ·rw [if_neg a6] at hc
       have a7 : (((ordB n p).length : Int) != n.nodes.length) = false := by rw [bne_eq_false_iff_eq]; omega
       simp (maxSteps:=500000) only [↓vp, vv, ↓reduceIte, simprocAttr, c100_9, c100_11, c100_10, r100, TRk16, selNP, RkF, HF, netD, plnD, Int.lt_irrefl, hn1, hp1, hord, a7, hc, Pu]
 ·have b0 : (checkI n != 0) = true := by simp [a0]
  have hc : fckI n p = checkI n := by unfold fckI; rw [if_neg a0]
  simp (maxSteps:=500000) only [↓vp, vv, ↓reduceIte, simprocAttr, c100, r100, TRk16, selNet, Net.enc, Pln.enc, netD, plnD, hn1, hz, b0, hc, Pu]
end Go.Proofs.Ytadjhfjiimgddaa
/- Plans out of a source: a way. -/
namespace Go.Proofs.Ytadjhfjiimgddaa
open Go
end Go.Proofs.Ytadjhfjiimgddaa
/- Plans out of a source. -/
namespace Go.Proofs.Ytadjhfjiimgddaa
open Go
def rowNew : List D → Hp → Nm → Option (Prop × (D → Hp → Prop)) := fun args Hs nn =>
 match args with
 | [.sl L] => some (Hs = Hp.none, Pu (.ptr nn 0 0 0) (Hp.none.put nn (sE (L.take 2000) 0)))
 | _ => Option.none
theorem tc_new {T : Tbl} (hT : TblOk Try.prog T) : TblOk Try.prog (tc 8 rowNew T) :=
 tc_row f8_ok (fun args Hs nn pre R hr hp => by
  unfold rowNew at hr
  split at hr
  ·cases hr
   subst hp
   exact ⟨⟨_, _, rfl, rfl⟩, New_c _ nn⟩
  ·cases hr) hT
theorem AllI.one {α : Type} {P : Nat → α → Prop} {x : α} (h : P 0 x) : AllI P [x] := (AllI.nil P).snoc h
theorem AllI.two {α : Type} {P : Nat → α → Prop} {x y : α} (h : P 0 x) (k : P 1 y) : AllI P [x, y] := (AllI.one h).snoc k
def selAw : List D → Option (Prop × D)
 | [] => some (True, db true)
 | _ => Option.none
theorem src_new (ns : List Int) (h : ∀ n ∈ ns, InI n) : SrcOk ((ns.map fun n => [di n]).take 2000) 0 :=
 ⟨Int.le_refl _, Int.natCast_nonneg _, by rw [List.length_take]; omega, ns.take 2000, by rw [List.map_take], fun n hn => h n (List.mem_of_mem_take hn)⟩
theorem with_t {r m : Int} (h1 : -m ≤ r) (h2 : r ≤ m) : withB r m = true := by unfold withB; rw [if_pos h1]; exact decide_eq_true h2
theorem len_f {n : Net} {p : Pln} (h1 : p.rates.length = n.segs.length) (h2 : p.ports.length = n.ports.length) (h3 : p.pumps.length = n.sts.length) : lenBad n p = false := by
 unfold lenBad
 rw [h1, h2, h3]
 simp
theorem any_ff {α : Type} {p : α → Bool} {l : List α} (h : ∀ x ∈ l, p x = false) : l.any p = false := List.any_eq_false.2 fun x hx e => by rw [h x hx] at e; cases e
end Go.Proofs.Ytadjhfjiimgddaa

/- Flow: the sanity check of the laws, run. -/
namespace Go.Proofs.Ytadjhfjiimgddaa
open Go
end Go.Proofs.Ytadjhfjiimgddaa

/- Flow: contracts for every network and every plan that can be counted. -/
namespace Go.Proofs.Ytadjhfjiimgddaa
open Go
def PreP (_ : Net) (p : Pln) : Prop := PlnSz p
theorem fck_lim {n : Net} {p : Pln} (h : limB n = false) : fckI n p = 4 := by unfold fckI; rw [chk_lim h]; rfl
def TFw2 : Tbl := tc 97 (rowPu (selNetW (fun _ => True) fun n => di (checkI n))) T0
theorem TFw2_ok : TblOk Try.prog TFw2 := tc_netw f97_ok (fun n _ nn => rcheck_w n nn) (T0_ok _)
set_option maxHeartbeats 4000000 in
theorem rchk16_w (n : Net) (p : Pln) (hq : PreP n p) (nn : Nm) : CallsA Try.prog 100 [n.enc, p.enc] Hp.none nn (Pu (di (fckI n p)) Hp.none) := by
 cases a1 : limB n with
 | true => exact rchk16_c n p (sz_of_lim a1) hq nn
 | false =>
  obtain ⟨code, h1, h2⟩ := c100_ok
  refine callsA_of TFw2_ok mixed (N := fun t => (0, t)) Try.func100 h1 h2 r100_ok [] false js_nil js_nil' (by simp [Try.f100]) ?_
  have hn1 := netOf1_x n
  have hc := chk_lim a1
  have hf := fck_lim (p := p) a1
  simp (maxSteps:=500000) only [↓vp, vv, ↓reduceIte, simprocAttr, c100, r100, c100_1, c100_10, c100_11, c100_12, c100_13, c100_14, c100_15, c100_2, c100_3, c100_4, c100_5, c100_6, c100_7, c100_8, c100_9, TFw2, selNetW, Net.enc, Pln.enc, netD, plnD, hn1, hc, hf, Pu]
def TFw3 : Tbl := tc 100 (rowPu (selNP PreP fun n p => di (fckI n p))) (tc 144 (rowPu selS16) (tc 128 (rowPu (selNP OrdIn fun n p => .sl ((ordB n p).map nRow))) T0))
theorem TFw3_ok : TblOk Try.prog TFw3 := tc_np f100_ok (fun n p h nn => rchk16_w n p h nn) (tc_pu f144_ok (fun args pre d hs hp nn => by
 unfold selS16 at hs
 split at hs
 ·split at hs
  ·rename_i e1 e2
   cases hs
   rw [netOf1_eq e1, plnOf1_eq e2]
   exact rsums_c _ _ hp.1 _ hp.2 nn
  ·cases hs
 ·cases hs) (tc_np f128_ok (fun n p h nn => rorder_c n p h nn) (T0_ok _)))
set_option maxHeartbeats 4000000 in
theorem rOrder_w (n : Net) (p : Pln) (hq : PreP n p) (nn : Nm) : CallsA Try.prog 82 [n.enc, p.enc] Hp.none nn (Pu (.tup [.sl ((ordR n p).map nRow), di (fckI n p)]) Hp.none) := by
 obtain ⟨code, h1, h2⟩ := c82_ok
 refine callsA_of TFw3_ok mixed (N := fun t => (0, t)) Try.func82 h1 h2 r82_ok [] false js_nil js_nil' (by simp [Try.f82]) ?_
 have hn1 := netOf1_x n
 have hp1 := plnOf1_x p
 by_cases a0 : fckI n p = 0
 ·have hv := fck0 a0
  have ho : OrdIn n p := ⟨by have := hv.net.nl; omega, by have := hv.net.sl; omega, hv.rl, hv.ord.2.2.2⟩
  have hr : ordR n p = ordB n p := if_pos a0
  simp (maxSteps:=500000) only [↓vp, vv, ↓reduceIte, simprocAttr, c82, r82, c82_1, TFw3, selNP, Net.enc, Pln.enc, netD, plnD, hn1, hp1, hq, ho, a0, bne_self_eq_false, hr, Pu]
 ·have b0 : (fckI n p != 0) = true := by simp [a0]
  have hr : ordR n p = [] := if_neg a0
  simp (maxSteps:=500000) only [↓vp, vv, ↓reduceIte, simprocAttr, c82, r82, c82_1, TFw3, selNP, Net.enc, Pln.enc, netD, plnD, hn1, hp1, hq, b0, hr, Pu]
structure Bat where
 pr : Int
 sh : ByteArray
 fr : Int
 to : Int
def Bat.row (b : Bat) : List D := [di b.pr, ds b.sh, di b.fr, di b.to]
end Go.Proofs.Ytadjhfjiimgddaa
/- Compiled code of some functions (printed by a program), each checked by the kernel. -/
namespace Go.Proofs.Ytadjhfjiimgddaa
open Go
end Go.Proofs.Ytadjhfjiimgddaa
