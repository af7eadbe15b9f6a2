
/- The reference of flow: the order. -/
import Derived.Test.YtkjibmfggeibjaaRf1
import Derived.Test.YtkjibmfggeibjaaFl2
namespace Go.Proofs.Ytkjibmfggeibjaa
open Go
set_option linter.unusedVariables false
set_option linter.unusedSimpArgs false
set_option maxRecDepth 100000

theorem bRow_dR (Y : List Bool) (k : Nat) (h : k < Y.length) : (Y.map bRow).getD k [] = [db (Y.getD k false)] := by
  rw [getD_map bRow Y k h, List.getD_eq_getElem?_getD, List.getElem?_eq_getElem h]; rfl
def nxt (E : List (Seg × Int)) (th : List Bool) (i : Nat) : Int := match (List.range i).find? (pickB E th) with
  | some k => k
  | none => -1
theorem nxt_0 (E : List (Seg × Int)) (th : List Bool) : nxt E th 0 = -1 := rfl
theorem nxt_succ (E : List (Seg × Int)) (th : List Bool) (i : Nat) : nxt E th (i + 1) = if nxt E th i < 0 then (if pickB E th i = true then (i : Int) else nxt E th i) else nxt E th i := by
  unfold nxt
  rw [List.range_succ, List.find?_append]
  cases h : (List.range i).find? (pickB E th) with
  | some k =>
    simp only [Option.some_or]
    rw [if_neg (by omega)]
  | none =>
    simp only [Option.none_or]
    rw [if_pos (by omega), List.find?_cons, List.find?_nil]
    cases pickB E th i <;> rfl
theorem nxt_b (E : List (Seg × Int)) (th : List Bool) (i : Nat) : -1 ≤ nxt E th i ∧ nxt E th i < i := by
  unfold nxt
  cases h : (List.range i).find? (pickB E th) with
  | some k =>
    have := List.mem_of_find?_eq_some h
    have := List.mem_range.1 this
    dsimp only
    omega
  | none => dsimp only; omega
def fre (E : List (Seg × Int)) (th : List Bool) (i j : Nat) : Bool := !(th.getD i false) && !((E.take j).any (blk th i))
theorem fre_succ {E : List (Seg × Int)} {th : List Bool} {i j : Nat} {x : Seg × Int} (h : E[j]? = some x) : fre E th i (j + 1) = (fre E th i j && !(blk th i x)) := by
  have hj : j < E.length := by
    rcases Nat.lt_or_ge j E.length with h1 | h1
    · exact h1
    · rw [List.getElem?_eq_none h1] at h; cases h
  unfold fre
  rw [← List.take_append_getElem hj, List.any_append]
  rw [List.getElem?_eq_getElem hj] at h
  cases h
  simp [Bool.and_assoc]
theorem fre_all {E : List (Seg × Int)} {th : List Bool} {i : Nat} (hi : i < th.length) : fre E th i E.length = pickB E th i := by
  unfold fre pickB
  rw [List.take_length]
  have e : th.getD i true = th.getD i false := by rw [List.getD_eq_getElem?_getD, List.getD_eq_getElem?_getD, List.getElem?_eq_getElem hi]; rfl
  rw [e]
  cases th.getD i false <;> rfl
theorem blk_ne {th : List Bool} {i : Nat} {s : Seg} {r : Int} (h : (r == 0) = false) : (!(blk th i (s, r))) = ((toOf (s, r) != (i : Int)) || th.getD (frOf (s, r)).toNat false) := by
  have e : blk th i (s, r) = if (toOf (s, r) == (i : Int)) = true then !(th.getD (frOf (s, r)).toNat false) else false := by
    unfold blk
    dsimp only
    rw [h, if_neg (by simp)]
    rfl
  rw [e]
  cases c : (toOf (s, r) == (i : Int)) with
  | true =>
    have : (toOf (s, r) != (i : Int)) = false := by rw [bne, c]; rfl
    rw [this, if_pos rfl, Bool.false_or, Bool.not_not]
  | false =>
    have : (toOf (s, r) != (i : Int)) = true := by rw [bne, c]; rfl
    rw [this, if_neg (by simp), Bool.true_or]
    rfl
theorem blk_z {th : List Bool} {i : Nat} {s : Seg} {r : Int} (h : (r == 0) = true) : blk th i (s, r) = false := by
  unfold blk
  dsimp only
  rw [h, if_pos rfl]
theorem nxt_none {E : List (Seg × Int)} {th : List Bool} {N : Nat} (h : nxt E th N < 0) : ∀ j, j < N → pickB E th j = false := fun j hj => by
  unfold nxt at h
  cases e : (List.range N).find? (pickB E th) with
  | some k => rw [e] at h; dsimp only at h; omega
  | none =>
    have := List.find?_eq_none.1 e j (List.mem_range.2 hj)
    simpa using this
theorem nxt_some {E : List (Seg × Int)} {th : List Bool} {N : Nat} (h : ¬ nxt E th N < 0) : ∃ k : Nat, nxt E th N = k ∧ k < N ∧ pickB E th k = true ∧ ∀ j, j < k → pickB E th j = false := by
  unfold nxt at h ⊢
  cases e : (List.range N).find? (pickB E th) with
  | some k =>
    rw [List.find?_range_eq_some] at e
    exact ⟨k, rfl, by simpa using e.2.1, e.1, fun j hj => by have := e.2.2 j hj; simpa using this⟩
  | none => rw [e] at h; dsimp only at h; omega
theorem pick_get {E : List (Seg × Int)} {th : List Bool} {k : Nat} (h : pickB E th k = true) : th[k]? = some false := by
  unfold pickB at h
  split at h
  · cases h
  · rename_i h1; exact getD_none (by simpa using h1)
theorem fre_0 (E : List (Seg × Int)) (th : List Bool) (i : Nat) : fre E th i 0 = !(th.getD i false) := by
  unfold fre
  rw [List.take_zero, List.any_nil]
  simp
def RoF (N : Nat) (out : List Nat) (l : List (Nat × D)) : List (Nat × D) := (2, .ptr (0, 2) 0 0 0) :: (3, .ptr (0, 3) 0 0 0) :: (5, .own (0, 1000) out.length 0 out.length) :: (6, .own (0, 17) 0 0 N) :: l
def RoH (n : Net) (p : Pln) (th : List Bool) (out : List Nat) : Hp := (((Hp.none.put (0, 1000) ⟨out.length, 1, out.map nRow⟩).put (0, 17) ⟨0, 1, th.map bRow⟩).put (0, 3) ⟨0, 3, [plnD p]⟩).put (0, 2) ⟨0, 6, [netD n]⟩
theorem rep_bR (k : Nat) : List.replicate k [db false] = (List.replicate k false).map bRow := by rw [List.map_replicate]; rfl
structure OrdIn (n : Net) (p : Pln) : Prop where
  nl : n.nodes.length ≤ 24
  sl : n.segs.length ≤ 32
  rl : p.rates.length = n.segs.length
  e : EdgeIn (n.segs.zip p.rates) n.nodes.length
set_option maxHeartbeats 16000000 in
theorem rorder_c (n : Net) (p : Pln) (h : OrdIn n p) (nn : Nm) : CallsA Try.prog 119 [n.enc, p.enc] Hp.none nn (Pu (.sl ((ordB n p).map nRow)) Hp.none) := by
  obtain ⟨code, h1, h2⟩ := c119_ok
  refine callsA_of TRs_ok mixed (N := fun t => (0, t)) Try.func119 h1 h2 r119_ok [] false js_nil js_nil' (by simp [Try.f119]) ?_
  have hnl := h.nl
  have hsl := h.sl
  have hrl := h.rl
  have hEl : (n.segs.zip p.rates).length = n.segs.length := by rw [List.length_zip]; omega
  have z1 : (1 : Int) * n.nodes.length ≤ 281474976710656 := by omega
  have z2 : (n.nodes.length : Int) ≤ 4611686018427387904 := by omega
  have z3 := idx_nn n.nodes.length
  have hB : ordB n p = ordL (n.segs.zip p.rates) n.nodes.length (List.replicate n.nodes.length false) [] := rfl
  simp (config := { maxSteps := 500000 }) only [↓vp, vv, implies_true, forall_const, undef, InI, ↓reduceIte, simprocAttr, c119, Net.enc, Pln.enc, plnD, z1, z2, z3, Int.toNat_natCast, rep_bR]
  refine ⟨fun m st => ∃ th out, cntF th = m ∧ th.length = n.nodes.length ∧ ordL (n.segs.zip p.rates) m th out = ordB n p ∧ out.length + m = n.nodes.length ∧ st = ⟨fr (RoF n.nodes.length out []), RoH n p th out⟩, ⟨n.nodes.length, _, (weak_own 5 (0, 1000) 1 (by simp (config := { maxSteps := 500000 }) only [↓vp, vv, implies_true, forall_const, undef, InI, ↓reduceIte, simprocAttr, ]) (by simp (config := { maxSteps := 500000 }) only [↓vp, vv, implies_true, forall_const, undef, InI, ↓reduceIte, simprocAttr, ])).trans (weak_eq [] [(0, 2), (0, 3), (0, 17), (0, 1000)] (RoF n.nodes.length [] []) (by simp (config := { maxSteps := 500000 }) only [↓vp, vv, implies_true, forall_const, undef, InI, ↓reduceIte, simprocAttr, coverS, RoF, RoH, netD, plnD, bRow]) (by simp (config := { maxSteps := 500000 }) only [↓vp, vv, implies_true, forall_const, undef, InI, ↓reduceIte, simprocAttr, refsF, RoF, RoH, netD, plnD, bRow]) (by simp (config := { maxSteps := 500000 }) only [↓vp, vv, implies_true, forall_const, undef, InI, ↓reduceIte, simprocAttr, RoF, RoH, netD, plnD, bRow]) (by simp) (by simp (config := { maxSteps := 500000 }) only [↓vp, vv, implies_true, forall_const, undef, InI, ↓reduceIte, simprocAttr, RoF, RoH, netD, plnD, bRow]; try rfl)), List.replicate n.nodes.length false, [], (init_inv (n.segs.zip p.rates) n.nodes.length).2, by simp, hB.symm, by simp, rfl⟩, ?_⟩
  rintro m st ⟨th, out, hm, hth, hord, hout, rfl⟩
  have hE := h.e
  have hnx := nxt_b (n.segs.zip p.rates) th
  simp (config := { maxSteps := 500000 }) only [↓vp, vv, implies_true, forall_const, undef, InI, ↓reduceIte, simprocAttr, c119_10, RoF, RoH, netD, plnD]
  refine rng_loop n.nodes.length (fun i => ⟨fr (RoF n.nodes.length out [(7, di (nxt (n.segs.zip p.rates) th i)), (20, di n.nodes.length), (21, di (i : Nat))]), RoH n p th out⟩) (fun _ => True) (weak_eq [] [(0, 2), (0, 3), (0, 17), (0, 1000)] (RoF n.nodes.length out [(7, di (nxt (n.segs.zip p.rates) th 0)), (20, di n.nodes.length), (21, di 0)]) (by simp (config := { maxSteps := 500000 }) only [↓vp, vv, implies_true, forall_const, undef, InI, ↓reduceIte, simprocAttr, coverS, RoF, RoH, netD, plnD, bRow, nRow, nxt_0]) (by simp (config := { maxSteps := 500000 }) only [↓vp, vv, implies_true, forall_const, undef, InI, ↓reduceIte, simprocAttr, refsF, RoF, RoH, netD, plnD, bRow, nRow, nxt_0]) (by simp (config := { maxSteps := 500000 }) only [↓vp, vv, implies_true, forall_const, undef, InI, ↓reduceIte, simprocAttr, RoF, RoH, netD, plnD, bRow, nRow, nxt_0]) (by simp) (by simp (config := { maxSteps := 500000 }) only [↓vp, vv, implies_true, forall_const, undef, InI, ↓reduceIte, simprocAttr, RoF, RoH, netD, plnD, bRow, nRow, nxt_0]; try rfl)) trivial (fun i hi _ => ?_) (fun _ => ?_)
  · have hi' : (i : Int) < n.nodes.length := by omega
    have hin := idx_nn i
    have wi := idx_next (j := i) (by omega)
    have hit : i < th.length := by omega
    have gi := bRow_dR th i hit
    have f0 := fre_0 (n.segs.zip p.rates) th i
    simp (config := { maxSteps := 500000 }) only [↓vp, vv, implies_true, forall_const, undef, InI, ↓reduceIte, simprocAttr, c119_7, c119_6, RoF, RoH, netD, plnD, hi, hi', hin, hit, hth, gi, Int.toNat_natCast]
    refine rng_loop n.segs.length (fun j => ⟨fr (RoF n.nodes.length out [(7, di (nxt (n.segs.zip p.rates) th i)), (8, di i), (9, db (fre (n.segs.zip p.rates) th i j)), (20, di n.nodes.length), (21, di i), (30, .sl (n.segs.map Seg.row)), (31, di n.segs.length), (32, di (j : Nat))]), RoH n p th out⟩) (fun _ => True) (weak_eq [] [(0, 2), (0, 3), (0, 17), (0, 1000)] (RoF n.nodes.length out [(7, di (nxt (n.segs.zip p.rates) th i)), (8, di i), (9, db (fre (n.segs.zip p.rates) th i 0)), (20, di n.nodes.length), (21, di i), (30, .sl (n.segs.map Seg.row)), (31, di n.segs.length), (32, di 0)]) (by simp (config := { maxSteps := 500000 }) only [↓vp, vv, implies_true, forall_const, undef, InI, ↓reduceIte, simprocAttr, coverS, RoF, RoH, netD, plnD, bRow, nRow, f0]) (by simp (config := { maxSteps := 500000 }) only [↓vp, vv, implies_true, forall_const, undef, InI, ↓reduceIte, simprocAttr, refsF, RoF, RoH, netD, plnD, bRow, nRow, f0]) (by simp (config := { maxSteps := 500000 }) only [↓vp, vv, implies_true, forall_const, undef, InI, ↓reduceIte, simprocAttr, RoF, RoH, netD, plnD, bRow, nRow, f0]) (by simp) (by simp (config := { maxSteps := 500000 }) only [↓vp, vv, implies_true, forall_const, undef, InI, ↓reduceIte, simprocAttr, RoF, RoH, netD, plnD, bRow, nRow, f0]; try rfl)) trivial (fun j hj _ => ?_) (fun _ => ?_)
    · have hj' : (j : Int) < n.segs.length := by omega
      have hjn := idx_nn j
      have hjr : j < p.rates.length := by omega
      have hjr' : (j : Int) < p.rates.length := by omega
      have w1 := idx_next (j := j) (by omega)
      have hgs : (n.segs.map Seg.row).getD j [] = Seg.row n.segs[j] := getD_map Seg.row n.segs j hj
      have hgr := iRow_at p.rates j hjr
      have hx := zip_get hj hjr
      have hf := fre_succ (th := th) (i := i) hx
      have hm2 := hE _ (List.mem_of_getElem? hx)
      generalize n.segs[j] = s at hgs hf hm2
      generalize p.rates[j] = r at hgr hf hm2
      have hs1 : segOf1 [ds s.name, di s.fr, di s.to, di s.cap, di s.resist, di s.wave, .sl (s.points.map Pt.row)] = some s := segOf1_row s
      generalize fre (n.segs.zip p.rates) th i j = f at hf
      cases c1 : (r == (0 : Int)) with
      | true =>
        rw [blk_z c1, Bool.not_false, Bool.and_true] at hf
        have c1b : (r != (0 : Int)) = false := by rw [bne, c1]; rfl
        simp (config := { maxSteps := 500000 }) only [↓vp, vv, implies_true, forall_const, undef, InI, ↓reduceIte, simprocAttr, c119_3, c119_2, c119_1, RoF, RoH, netD, plnD, hj, hj', hjn, hjr', Int.toNat_natCast, hgs, hgr, c1b, w1, Seg.row]
        exact rng_next hj (weak_eq [] [(0, 2), (0, 3), (0, 17), (0, 1000)] (RoF n.nodes.length out [(7, di (nxt (n.segs.zip p.rates) th i)), (8, di i), (9, db (fre (n.segs.zip p.rates) th i (j + 1))), (20, di n.nodes.length), (21, di i), (30, .sl (n.segs.map Seg.row)), (31, di n.segs.length), (32, di (j + 1 : Nat))]) (by simp (config := { maxSteps := 500000 }) only [↓vp, vv, implies_true, forall_const, undef, InI, ↓reduceIte, simprocAttr, coverS, RoF, RoH, netD, plnD, bRow, nRow, w1, hf]) (by simp (config := { maxSteps := 500000 }) only [↓vp, vv, implies_true, forall_const, undef, InI, ↓reduceIte, simprocAttr, refsF, RoF, RoH, netD, plnD, bRow, nRow, w1, hf]) (by simp (config := { maxSteps := 500000 }) only [↓vp, vv, implies_true, forall_const, undef, InI, ↓reduceIte, simprocAttr, RoF, RoH, netD, plnD, bRow, nRow, w1, hf]) (by simp) (by simp (config := { maxSteps := 500000 }) only [↓vp, vv, implies_true, forall_const, undef, InI, ↓reduceIte, simprocAttr, RoF, RoH, netD, plnD, bRow, nRow, w1, hf]; try rfl)) trivial
      | false =>
        rw [blk_ne c1] at hf
        have c1b : (r != (0 : Int)) = true := by rw [bne, c1]; rfl
        have hfr : 0 ≤ frOf (s, r) ∧ frOf (s, r) < n.nodes.length := by unfold frOf; dsimp only at hm2 ⊢; split <;> omega
        have q1 := hfr.1
        have q2 := hfr.2
        have q3 : (frOf (s, r)).toNat < n.nodes.length := by omega
        have gf := bRow_dR th (frOf (s, r)).toNat (by omega)
        generalize hA : frOf (s, r) = a at hf hfr q1 q2 q3 gf
        cases f <;> cases c2 : (toOf (s, r) != (i : Int)) <;> cases c3 : th.getD a.toNat false
        all_goals
          rw [c3] at gf
          simp only [c2, c3, Bool.true_and, Bool.false_and, Bool.true_or, Bool.false_or] at hf
          simp (config := { maxSteps := 500000 }) only [↓vp, vv, implies_true, forall_const, undef, InI, ↓reduceIte, simprocAttr, c119_3, c119_2, c119_1, TRs, selEnds, RoF, RoH, netD, plnD, hj, hj', hjn, hjr', Int.toNat_natCast, hgs, hgr, hs1, c1b, c2, hA, q1, q2, q3, hth, gf, w1, Seg.row]
          exact rng_next hj (weak_eq [] [(0, 2), (0, 3), (0, 17), (0, 1000)] (RoF n.nodes.length out [(7, di (nxt (n.segs.zip p.rates) th i)), (8, di i), (9, db (fre (n.segs.zip p.rates) th i (j + 1))), (20, di n.nodes.length), (21, di i), (30, .sl (n.segs.map Seg.row)), (31, di n.segs.length), (32, di (j + 1 : Nat))]) (by simp (config := { maxSteps := 500000 }) only [↓vp, vv, implies_true, forall_const, undef, InI, ↓reduceIte, simprocAttr, coverS, RoF, RoH, netD, plnD, bRow, nRow, w1, hf]) (by simp (config := { maxSteps := 500000 }) only [↓vp, vv, implies_true, forall_const, undef, InI, ↓reduceIte, simprocAttr, refsF, RoF, RoH, netD, plnD, bRow, nRow, w1, hf]) (by simp (config := { maxSteps := 500000 }) only [↓vp, vv, implies_true, forall_const, undef, InI, ↓reduceIte, simprocAttr, RoF, RoH, netD, plnD, bRow, nRow, w1, hf]) (by simp) (by simp (config := { maxSteps := 500000 }) only [↓vp, vv, implies_true, forall_const, undef, InI, ↓reduceIte, simprocAttr, RoF, RoH, netD, plnD, bRow, nRow, w1, hf]; try rfl)) trivial
    · have hfa : fre (n.segs.zip p.rates) th i n.segs.length = pickB (n.segs.zip p.rates) th i := by rw [← hEl]; exact fre_all hit
      have hs2 := nxt_succ (n.segs.zip p.rates) th i
      have hb := hnx i
      generalize hv : nxt (n.segs.zip p.rates) th i = v at *
      cases c4 : pickB (n.segs.zip p.rates) th i <;> cases c5 : decide (v < 0)
      all_goals
        rw [c4] at hfa hs2
        have c5' := c5
        simp only [decide_eq_true_eq, decide_eq_false_iff_not] at c5'
        simp only [c5', if_true, if_false, Bool.false_eq_true] at hs2
        simp (config := { maxSteps := 500000 }) only [↓vp, vv, implies_true, forall_const, undef, InI, ↓reduceIte, simprocAttr, c119_3, c119_4, c119_5, RoF, RoH, netD, plnD, hfa, c5, wi, Int.lt_irrefl]
        exact rng_next hi (weak_eq [] [(0, 2), (0, 3), (0, 17), (0, 1000)] (RoF n.nodes.length out [(7, di (nxt (n.segs.zip p.rates) th (i + 1))), (20, di n.nodes.length), (21, di (i + 1 : Nat))]) (by simp (config := { maxSteps := 500000 }) only [↓vp, vv, implies_true, forall_const, undef, InI, ↓reduceIte, simprocAttr, coverS, RoF, RoH, netD, plnD, bRow, nRow, hs2, wi]) (by simp (config := { maxSteps := 500000 }) only [↓vp, vv, implies_true, forall_const, undef, InI, ↓reduceIte, simprocAttr, refsF, RoF, RoH, netD, plnD, bRow, nRow, hs2, wi]) (by simp (config := { maxSteps := 500000 }) only [↓vp, vv, implies_true, forall_const, undef, InI, ↓reduceIte, simprocAttr, RoF, RoH, netD, plnD, bRow, nRow, hs2, wi]) (by simp) (by simp (config := { maxSteps := 500000 }) only [↓vp, vv, implies_true, forall_const, undef, InI, ↓reduceIte, simprocAttr, RoF, RoH, netD, plnD, bRow, nRow, hs2, wi]; try rfl)) trivial
  · cases c6 : decide (nxt (n.segs.zip p.rates) th n.nodes.length < 0) with
    | true =>
      have h0 := nxt_none (of_decide_eq_true c6)
      have he : ordL (n.segs.zip p.rates) (cntF th) th out = out := ord_end fun j hj => h0 j (by omega)
      rw [← hm, he] at hord
      have tk : (out.map nRow).take out.length = out.map nRow := List.take_of_length_le (by simp)
      rw [← hord]
      simp (config := { maxSteps := 500000 }) only [↓vp, vv, implies_true, forall_const, undef, InI, ↓reduceIte, simprocAttr, c119_7, c119_9, c119_8, r119, RoF, RoH, netD, plnD, Int.lt_irrefl, c6, tk, Pu]
      exact fun x _ d hd => by rw [List.mem_singleton.1 hd]; rfl
    | false =>
      obtain ⟨k, hk, hkN, hpk, h0⟩ := nxt_some (of_decide_eq_false c6)
      rw [hk] at c6
      have hkn := idx_nn k
      have hkN' : (k : Int) < n.nodes.length := by omega
      have hkt : k < th.length := by omega
      have gk := bRow_dR th k hkt
      have hc := cntF_set th k (pick_get hpk)
      have hop : ordL (n.segs.zip p.rates) (cntF th) th out = _ := ord_pick h0 hpk
      rw [← hm, hop] at hord
      have eS : (th.map bRow).set k [db true] = (th.set k true).map bRow := (List.map_set ..).symm
      have y1 : (out.length + 1) * 8 ≤ 140737488355328 := by omega
      have y2 : out.length + 1 ≤ 4611686018427387904 := by omega
      simp (config := { maxSteps := 500000 }) only [↓vp, vv, implies_true, forall_const, undef, InI, ↓reduceIte, simprocAttr, c119_7, c119_9, c119_8, RoF, RoH, netD, plnD, Int.lt_irrefl, hk, c6, hkn, hkN', hkN, hkt, hth, gk, eS, y1, y2, Int.toNat_natCast]
      exact ⟨cntF (th.set k true), _, by omega, (weak_eq [] [(0, 2), (0, 3), (0, 17), (0, 1000)] (RoF n.nodes.length (out ++ [k]) []) (by simp (config := { maxSteps := 500000 }) only [↓vp, vv, implies_true, forall_const, undef, InI, ↓reduceIte, simprocAttr, coverS, RoF, RoH, netD, plnD, bRow, nRow, List.map_append, List.length_append, List.length_cons, List.length_nil]) (by simp (config := { maxSteps := 500000 }) only [↓vp, vv, implies_true, forall_const, undef, InI, ↓reduceIte, simprocAttr, refsF, RoF, RoH, netD, plnD, bRow, nRow, List.map_append, List.length_append, List.length_cons, List.length_nil]) (by simp (config := { maxSteps := 500000 }) only [↓vp, vv, implies_true, forall_const, undef, InI, ↓reduceIte, simprocAttr, RoF, RoH, netD, plnD, bRow, nRow, List.map_append, List.length_append, List.length_cons, List.length_nil]) (by simp) (by simp (config := { maxSteps := 500000 }) only [↓vp, vv, implies_true, forall_const, undef, InI, ↓reduceIte, simprocAttr, RoF, RoH, netD, plnD, bRow, nRow, List.map_append, List.length_append, List.length_cons, List.length_nil]; try rfl)), th.set k true, out ++ [k], rfl, by rw [List.length_set]; exact hth, hord, by rw [List.length_append]; simp; omega, rfl⟩
end Go.Proofs.Ytkjibmfggeibjaa
