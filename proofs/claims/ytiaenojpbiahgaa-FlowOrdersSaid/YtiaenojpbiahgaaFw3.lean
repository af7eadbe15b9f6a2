
/- Flow: the order. -/
import Derived.Test.YtiaenojpbiahgaaFw2
namespace Go.Proofs.Ytiaenojpbiahgaa
open Go
set_option linter.unusedVariables false
set_option linter.unusedSimpArgs false
set_option maxRecDepth 100000

def nRow (k : Nat) : List D := [di (k : Int)]
def selEnds : List D → Option (Prop × D)
  | [.agg r, .v (.int .i64 k)] => match segOf1 r with
    | some s => some (True, .tup [di (frOf (s, k)), di (toOf (s, k))])
    | Option.none => Option.none
  | _ => Option.none
def TO : Tbl := tc 92 (rowPu selEnds) T0
theorem TO_ok : TblOk Try.prog TO := by
  refine tc_pu f92_ok (fun args pre d h hp nn => ?_) (T0_ok _)
  unfold selEnds at h
  split at h
  · split at h
    · rename_i hs
      cases h
      rw [segOf1_eq hs]
      exact fends_c _ _ nn
    · cases h
  · cases h
def HO (n : Net) (p : Pln) (g : Nat) (out : List Nat) (th : List Bool) : Hp := (((Hp.none.put (0, 1000) ⟨g, 1, out.map nRow⟩).put (0, 15) ⟨0, 1, th.map bRow⟩).put (0, 3) ⟨0, 3, [plnD p]⟩).put (0, 2) ⟨0, 6, [netD n]⟩
def FrO (g : Nat) (out : List Nat) (th : List Bool) (k : Int) (l : List (Nat × D)) : List (Nat × D) := (2, .ptr (0, 2) 0 0 0) :: (3, .ptr (0, 3) 0 0 0) :: (5, .own (0, 1000) g 0 out.length) :: (6, .own (0, 15) 0 0 th.length) :: (7, di k) :: l
structure OI (n : Net) (p : Pln) (th : List Bool) (out : List Nat) (k : Nat) : Prop where
  tl : th.length = n.nodes.length
  kl : k ≤ n.nodes.length
  cnt : cntF th + out.length = n.nodes.length
  res : ordL (n.segs.zip p.rates) (cntF th) th out = ordB n p
  no : ∀ j, j < k → pickB (n.segs.zip p.rates) th j = false
def OInv (n : Net) (p : Pln) (m : Nat) (s : St) : Prop := ∃ th out k g, OI n p th out k ∧ m = cntF th * (n.nodes.length + 1) + (n.nodes.length - k) ∧ s = ⟨fr (FrO g out th k []), HO n p g out th⟩
theorem OI.skip {n : Net} {p : Pln} {th : List Bool} {out : List Nat} {k : Nat} (h : OI n p th out k) (hk : k < n.nodes.length) (hp : pickB (n.segs.zip p.rates) th k = false) : OI n p th out (k + 1) :=
  ⟨h.tl, hk, h.cnt, h.res, fun j hj => by
    rcases Nat.lt_or_ge j k with h1 | h1
    · exact h.no j h1
    · obtain rfl : j = k := by omega
      exact hp⟩
theorem OI.pick {n : Net} {p : Pln} {th : List Bool} {out : List Nat} {k : Nat} (h : OI n p th out k) (hp : pickB (n.segs.zip p.rates) th k = true) : OI n p (th.set k true) (out ++ [k]) 0 ∧ cntF (th.set k true) + 1 = cntF th := by
  have hs := getD_none ((pick_iff _ th k).1 hp).1
  have hc := cntF_set th k hs
  refine ⟨⟨by rw [List.length_set]; exact h.tl, Nat.zero_le _, ?_, ?_, fun j hj => absurd hj (Nat.not_lt_zero j)⟩, hc⟩
  · have := h.cnt
    rw [List.length_append, List.length_singleton]
    omega
  · rw [← h.res]
    exact (ord_pick h.no hp).symm
theorem bRow_at (th : List Bool) (k : Nat) (h : k < th.length) : (th.map bRow).getD k [] = [db (th.getD k false)] := by
  rw [getD_map bRow th k h, List.getD_eq_getElem?_getD, List.getElem?_eq_getElem h]
  rfl
theorem bRow_set (th : List Bool) (k : Nat) (b : Bool) : (th.map bRow).set k [db b] = (th.set k b).map bRow := (List.map_set ..).symm
theorem len_set (th : List Bool) (k : Nat) (b : Bool) : (th.set k b).length = th.length := List.length_set
theorem w_zero : IntKind.i64.wrap 0 = 0 := by decide
theorem zip_get {α β : Type} {l : List α} {m : List β} {i : Nat} (h1 : i < l.length) (h2 : i < m.length) : (l.zip m)[i]? = some (l[i], m[i]) := by
  rw [List.getElem?_zip_eq_some]
  exact ⟨List.getElem?_eq_getElem h1, List.getElem?_eq_getElem h2⟩
set_option maxHeartbeats 16000000 in
theorem order_c (n : Net) (p : Pln) (hz1 : n.nodes.length ≤ 1000000) (hz2 : n.segs.length ≤ 1000000) (hr : p.rates.length = n.segs.length) (hE : EdgeIn (n.segs.zip p.rates) n.nodes.length) (nn : Nm) :
    CallsA Try.prog 65 [n.enc, p.enc] Hp.none nn (Pu (.sl ((ordB n p).map nRow)) Hp.none) := by
  obtain ⟨code, h1, h2⟩ := c65_ok
  refine callsA_of TO_ok mixed (N := fun t => (0, t)) Try.func65 h1 h2 r65_ok [] false js_nil js_nil' (by simp [Try.f65]) ?_
  obtain ⟨i1, i2⟩ := init_inv (n.segs.zip p.rates) n.nodes.length
  have e0 : List.replicate n.nodes.length [db false] = (List.replicate n.nodes.length false).map bRow := by rw [List.map_replicate]; rfl
  have z1 : (8 : Int) * n.nodes.length ≤ 281474976710656 := by omega
  have z2 : (n.nodes.length : Int) ≤ 281474976710656 := by omega
  have z3 : (n.nodes.length : Int) ≤ 4611686018427387904 := by omega
  have z4 := idx_nn n.nodes.length
  simp (config := { maxSteps := 500000 }) only [↓vp, vv, implies_true, forall_const, undef, InI, ↓reduceIte, simprocAttr, c65, Net.enc, Pln.enc, plnD, Int.toNat_natCast, z1, z2, z3, z4, e0, Int.one_mul]
  rw [vc_loop]
  refine ⟨OInv n p, ⟨_, _, (weak_own 5 (0, 1000) 1 (by simp (config := { maxSteps := 500000 }) only [↓vp, vv, implies_true, forall_const, undef, InI, ↓reduceIte, simprocAttr, ]) (by simp (config := { maxSteps := 500000 }) only [↓vp, vv, implies_true, forall_const, undef, InI, ↓reduceIte, simprocAttr, ])).trans (weak_eq [] [(0, 2), (0, 3), (0, 15), (0, 1000)] (FrO 0 [] (List.replicate n.nodes.length false) 0 []) (by simp (config := { maxSteps := 500000 }) only [↓vp, vv, implies_true, forall_const, undef, InI, ↓reduceIte, simprocAttr, coverS, FrO, HO, netD, plnD, bRow, List.length_replicate]) (by simp (config := { maxSteps := 500000 }) only [↓vp, vv, implies_true, forall_const, undef, InI, ↓reduceIte, simprocAttr, refsF, FrO, HO, netD, plnD, bRow, List.length_replicate]) (by simp (config := { maxSteps := 500000 }) only [↓vp, vv, implies_true, forall_const, undef, InI, ↓reduceIte, simprocAttr, FrO, HO, netD, plnD, bRow, List.length_replicate]) (by simp) (by simp (config := { maxSteps := 500000 }) only [↓vp, vv, implies_true, forall_const, undef, InI, ↓reduceIte, simprocAttr, FrO, HO, netD, plnD, bRow, List.length_replicate]; try rfl)), List.replicate n.nodes.length false, [], 0, 0, ⟨List.length_replicate, Nat.zero_le _, by rw [i2]; rfl, by rw [i2]; rfl, fun j hj => absurd hj (Nat.not_lt_zero j)⟩, rfl, rfl⟩, ?_⟩
  rintro m s ⟨th, out, k, g, hI, hm, rfl⟩
  have htl := hI.tl
  by_cases hk : k < n.nodes.length
  · have hk' : (k : Int) < n.nodes.length := by omega
    have hkt : k < th.length := by omega
    have hkt' : (k : Int) < th.length := by omega
    have hn := idx_nn k
    have w1 := idx_next (j := k) (by omega)
    have hg := bRow_at th k hkt
    have fin : pickB (n.segs.zip p.rates) th k = false → ∀ F : Fr, ∀ H : Hp, H (0, 2) = some ⟨0, 6, [netD n]⟩ → H (0, 3) = some ⟨0, 3, [plnD p]⟩ → H (0, 15) = some ⟨0, 1, th.map bRow⟩ → H (0, 1000) = some ⟨g, 1, out.map nRow⟩ → F 2 = .ptr (0, 2) 0 0 0 → F 3 = .ptr (0, 3) 0 0 0 → F 5 = .own (0, 1000) g 0 out.length → F 6 = .own (0, 15) 0 0 th.length → F 7 = di (k + 1 : Nat) →
        ∃ k' s', k' < m ∧ Weak [] ⟨F, H⟩ s' ∧ OInv n p k' s' := by
      intro hp F H g1 g2 g3 g4 f2 f3 f5 f6 f7
      refine ⟨_, _, ?_, (weak_eq [] [(0, 2), (0, 3), (0, 15), (0, 1000)] (FrO g out th (k + 1 : Nat) []) (by simp (config := { maxSteps := 500000 }) only [↓vp, vv, implies_true, forall_const, undef, InI, ↓reduceIte, simprocAttr, coverS, FrO, HO, netD, plnD, nRow, bRow, f2, f3, f5, f6, f7, g1, g2, g3, g4]) (by simp (config := { maxSteps := 500000 }) only [↓vp, vv, implies_true, forall_const, undef, InI, ↓reduceIte, simprocAttr, refsF, FrO, HO, netD, plnD, nRow, bRow, f2, f3, f5, f6, f7, g1, g2, g3, g4]) (by simp (config := { maxSteps := 500000 }) only [↓vp, vv, implies_true, forall_const, undef, InI, ↓reduceIte, simprocAttr, FrO, HO, netD, plnD, nRow, bRow, f2, f3, f5, f6, f7, g1, g2, g3, g4]) (by simp) (by simp (config := { maxSteps := 500000 }) only [↓vp, vv, implies_true, forall_const, undef, InI, ↓reduceIte, simprocAttr, FrO, HO, netD, plnD, nRow, bRow, f2, f3, f5, f6, f7, g1, g2, g3, g4]; try rfl)), th, out, k + 1, g, hI.skip hk hp, rfl, rfl⟩
      omega
    cases ht : th.getD k false with
    | true =>
      have hp : pickB (n.segs.zip p.rates) th k = false := by
        unfold pickB
        rw [List.getD_eq_getElem?_getD, List.getElem?_eq_getElem hkt, Option.getD_some] at ht ⊢
        rw [if_pos ht]
      rw [ht] at hg
      simp (config := { maxSteps := 500000 }) only [↓vp, vv, implies_true, forall_const, undef, InI, ↓reduceIte, simprocAttr, c65, r65, c65_1, c65_2, c65_3, c65_4, c65_5, c65_6, c65_7, c65_8, c65_9, FrO, HO, netD, plnD, hk', hkt, hkt', hn, Int.toNat_natCast, hg, w1]
      refine fin hp _ _ ?_ ?_ ?_ ?_ ?_ ?_ ?_ ?_ ?_ <;> simp (config := { maxSteps := 500000 }) only [↓vp, vv, implies_true, forall_const, undef, InI, ↓reduceIte, simprocAttr, netD, plnD, w1]
    | false =>
      rw [ht] at hg
      simp (config := { maxSteps := 500000 }) only [↓vp, vv, implies_true, forall_const, undef, InI, ↓reduceIte, simprocAttr, c65, r65, c65_1, c65_2, c65_3, c65_4, c65_5, c65_6, c65_7, c65_8, c65_9, FrO, HO, netD, plnD, hk', hkt, hkt', hn, Int.toNat_natCast, hg, w1]
      refine rng_loop n.segs.length (fun i => ⟨fr (FrO g out th k [(28, .sl (n.segs.map Seg.row)), (29, di n.segs.length), (30, di i)]), HO n p g out th⟩) (fun i => ∀ i', i' < i → ∀ x, (n.segs.zip p.rates)[i']? = some x → blk th k x = false) (weak_eq [] [(0, 2), (0, 3), (0, 15), (0, 1000)] (FrO g out th k [(28, .sl (n.segs.map Seg.row)), (29, di n.segs.length), (30, di 0)]) (by simp (config := { maxSteps := 500000 }) only [↓vp, vv, implies_true, forall_const, undef, InI, ↓reduceIte, simprocAttr, coverS, FrO, HO, netD, plnD, nRow, bRow]) (by simp (config := { maxSteps := 500000 }) only [↓vp, vv, implies_true, forall_const, undef, InI, ↓reduceIte, simprocAttr, refsF, FrO, HO, netD, plnD, nRow, bRow]) (by simp (config := { maxSteps := 500000 }) only [↓vp, vv, implies_true, forall_const, undef, InI, ↓reduceIte, simprocAttr, FrO, HO, netD, plnD, nRow, bRow]) (by simp) (by simp (config := { maxSteps := 500000 }) only [↓vp, vv, implies_true, forall_const, undef, InI, ↓reduceIte, simprocAttr, FrO, HO, netD, plnD, nRow, bRow]; try rfl)) (fun i' hi' => absurd hi' (Nat.not_lt_zero i')) (fun i hi hP => ?_) (fun hP => ?_)
      · have hi' : (i : Int) < n.segs.length := by omega
        have hin := idx_nn i
        have w2 := idx_next (j := i) (by omega)
        have hir : i < p.rates.length := by omega
        have hir' : (i : Int) < p.rates.length := by omega
        have hgs := getD_map Seg.row n.segs i hi
        have hgr := iRow_at p.rates i hir
        have hx := zip_get hi hir
        generalize n.segs[i] = s at hgs hx
        generalize p.rates[i] = r at hgr hx
        have hmem : (s, r) ∈ n.segs.zip p.rates := List.mem_of_getElem? hx
        have hfr := fr_in hE hmem
        have hs1 : segOf1 [ds s.name, di s.fr, di s.to, di s.cap, di s.resist, di s.wave, .sl (s.points.map Pt.row)] = some s := segOf1_row s
        have hf0 := hfr.1
        have hf1 : frOf (s, r) < th.length := by omega
        have hf2 : (frOf (s, r)).toNat < th.length := by omega
        have hgf := bRow_at th (frOf (s, r)).toNat hf2
        have hbl := blk_eq th k (s, r)
        have nxt : blk th k (s, r) = false → ∀ i', i' < i + 1 → ∀ x, (n.segs.zip p.rates)[i']? = some x → blk th k x = false := fun hb i' h1 x h2 => by
          rcases Nat.lt_or_ge i' i with h3 | h3
          · exact hP i' h3 x h2
          · obtain rfl : i' = i := by omega
            rw [hx] at h2
            cases h2
            exact hb
        have nb : ¬ (r ≠ 0 ∧ toOf (s, r) = k ∧ th.getD (frOf (s, r)).toNat false = false) → blk th k (s, r) = false := fun h => by
          cases hb : blk th k (s, r) with
          | false => rfl
          | true => exact absurd (hbl.1 hb) h
        cases c1 : (r != 0) with
        | false =>
          have hb := nb fun h => by simp at c1; exact h.1 c1
          simp (config := { maxSteps := 500000 }) only [↓vp, vv, implies_true, forall_const, undef, InI, ↓reduceIte, simprocAttr, c65, r65, c65_1, c65_2, c65_3, c65_4, c65_5, c65_6, c65_7, c65_8, c65_9, TO, selEnds, FrO, HO, netD, plnD, hi', hin, hir', Int.toNat_natCast, hgs, hgr, Seg.row, hs1, c1, w2]
          exact rng_next hi (weak_eq [] [(0, 2), (0, 3), (0, 15), (0, 1000)] (FrO g out th k [(28, .sl (n.segs.map Seg.row)), (29, di n.segs.length), (30, di (i + 1 : Nat))]) (by simp (config := { maxSteps := 500000 }) only [↓vp, vv, implies_true, forall_const, undef, InI, ↓reduceIte, simprocAttr, coverS, FrO, HO, netD, plnD, nRow, bRow, w2, Seg.row]) (by simp (config := { maxSteps := 500000 }) only [↓vp, vv, implies_true, forall_const, undef, InI, ↓reduceIte, simprocAttr, refsF, FrO, HO, netD, plnD, nRow, bRow, w2, Seg.row]) (by simp (config := { maxSteps := 500000 }) only [↓vp, vv, implies_true, forall_const, undef, InI, ↓reduceIte, simprocAttr, FrO, HO, netD, plnD, nRow, bRow, w2, Seg.row]) (by simp) (by simp (config := { maxSteps := 500000 }) only [↓vp, vv, implies_true, forall_const, undef, InI, ↓reduceIte, simprocAttr, FrO, HO, netD, plnD, nRow, bRow, w2, Seg.row]; try rfl)) (nxt hb)
        | true =>
        cases c2 : (toOf (s, r) == (k : Int)) with
        | false =>
          have hb := nb fun h => by simp at c2; exact c2 h.2.1
          simp (config := { maxSteps := 500000 }) only [↓vp, vv, implies_true, forall_const, undef, InI, ↓reduceIte, simprocAttr, c65, r65, c65_1, c65_2, c65_3, c65_4, c65_5, c65_6, c65_7, c65_8, c65_9, TO, selEnds, FrO, HO, netD, plnD, hi', hin, hir', Int.toNat_natCast, hgs, hgr, Seg.row, hs1, c1, c2, w2]
          exact rng_next hi (weak_eq [] [(0, 2), (0, 3), (0, 15), (0, 1000)] (FrO g out th k [(28, .sl (n.segs.map Seg.row)), (29, di n.segs.length), (30, di (i + 1 : Nat))]) (by simp (config := { maxSteps := 500000 }) only [↓vp, vv, implies_true, forall_const, undef, InI, ↓reduceIte, simprocAttr, coverS, FrO, HO, netD, plnD, nRow, bRow, w2, Seg.row]) (by simp (config := { maxSteps := 500000 }) only [↓vp, vv, implies_true, forall_const, undef, InI, ↓reduceIte, simprocAttr, refsF, FrO, HO, netD, plnD, nRow, bRow, w2, Seg.row]) (by simp (config := { maxSteps := 500000 }) only [↓vp, vv, implies_true, forall_const, undef, InI, ↓reduceIte, simprocAttr, FrO, HO, netD, plnD, nRow, bRow, w2, Seg.row]) (by simp) (by simp (config := { maxSteps := 500000 }) only [↓vp, vv, implies_true, forall_const, undef, InI, ↓reduceIte, simprocAttr, FrO, HO, netD, plnD, nRow, bRow, w2, Seg.row]; try rfl)) (nxt hb)
        | true =>
        cases c3 : th.getD (frOf (s, r)).toNat false with
        | true =>
          have hb := nb fun h => by rw [c3] at h; cases h.2.2
          rw [c3] at hgf
          simp (config := { maxSteps := 500000 }) only [↓vp, vv, implies_true, forall_const, undef, InI, ↓reduceIte, simprocAttr, c65, r65, c65_1, c65_2, c65_3, c65_4, c65_5, c65_6, c65_7, c65_8, c65_9, TO, selEnds, FrO, HO, netD, plnD, hi', hin, hir', Int.toNat_natCast, hgs, hgr, Seg.row, hs1, c1, c2, hf0, hf1, hf2, hgf, w2]
          exact rng_next hi (weak_eq [] [(0, 2), (0, 3), (0, 15), (0, 1000)] (FrO g out th k [(28, .sl (n.segs.map Seg.row)), (29, di n.segs.length), (30, di (i + 1 : Nat))]) (by simp (config := { maxSteps := 500000 }) only [↓vp, vv, implies_true, forall_const, undef, InI, ↓reduceIte, simprocAttr, coverS, FrO, HO, netD, plnD, nRow, bRow, w2, Seg.row]) (by simp (config := { maxSteps := 500000 }) only [↓vp, vv, implies_true, forall_const, undef, InI, ↓reduceIte, simprocAttr, refsF, FrO, HO, netD, plnD, nRow, bRow, w2, Seg.row]) (by simp (config := { maxSteps := 500000 }) only [↓vp, vv, implies_true, forall_const, undef, InI, ↓reduceIte, simprocAttr, FrO, HO, netD, plnD, nRow, bRow, w2, Seg.row]) (by simp) (by simp (config := { maxSteps := 500000 }) only [↓vp, vv, implies_true, forall_const, undef, InI, ↓reduceIte, simprocAttr, FrO, HO, netD, plnD, nRow, bRow, w2, Seg.row]; try rfl)) (nxt hb)
        | false =>
          have hb : blk th k (s, r) = true := hbl.2 ⟨by simpa using c1, by simpa using c2, c3⟩
          have hp : pickB (n.segs.zip p.rates) th k = false := by
            unfold pickB
            rw [List.any_eq_true.2 ⟨_, hmem, hb⟩]
            split <;> rfl
          rw [c3] at hgf
          simp (config := { maxSteps := 500000 }) only [↓vp, vv, implies_true, forall_const, undef, InI, ↓reduceIte, simprocAttr, c65, r65, c65_1, c65_2, c65_3, c65_4, c65_5, c65_6, c65_7, c65_8, c65_9, TO, selEnds, FrO, HO, netD, plnD, hi', hin, hir', Int.toNat_natCast, hgs, hgr, Seg.row, hs1, c1, c2, hf0, hf1, hf2, hgf, w1]
          refine fin hp _ _ ?_ ?_ ?_ ?_ ?_ ?_ ?_ ?_ ?_ <;> simp (config := { maxSteps := 500000 }) only [↓vp, vv, implies_true, forall_const, undef, InI, ↓reduceIte, simprocAttr, netD, plnD, w1]
      · have hany : (n.segs.zip p.rates).any (blk th k) = false := by
          rw [List.any_eq_false]
          intro x hx hb
          obtain ⟨i, hi⟩ := List.getElem?_of_mem hx
          have hl : i < n.segs.length := by
            rcases Nat.lt_or_ge i (n.segs.zip p.rates).length with h | h
            · rw [List.length_zip] at h; omega
            · rw [List.getElem?_eq_none h] at hi; cases hi
          rw [hP i hl x hi] at hb
          cases hb
        have hp : pickB (n.segs.zip p.rates) th k = true := by
          unfold pickB
          rw [hany]
          rw [List.getD_eq_getElem?_getD, List.getElem?_eq_getElem hkt, Option.getD_some] at ht ⊢
          rw [ht]
          rfl
        obtain ⟨hI2, hc⟩ := hI.pick hp
        have z5 : ((out.length : Int) + 1) * 8 ≤ 140737488355328 := by have := hI.cnt; omega
        have z6 : (out.length + 1) * 8 ≤ 140737488355328 := by have := hI.cnt; omega
        have z7 : out.length + 1 ≤ 4611686018427387904 := by have := hI.cnt; omega
        simp (config := { maxSteps := 500000 }) only [↓vp, vv, implies_true, forall_const, undef, InI, ↓reduceIte, simprocAttr, c65, r65, c65_1, c65_2, c65_3, c65_4, c65_5, c65_6, c65_7, c65_8, c65_9, FrO, HO, netD, plnD, Int.lt_irrefl, hk', hkt, hkt', hn, Int.toNat_natCast, hg, bRow_set, len_set, w_zero, z6, z7, nRow]
        refine ⟨_, _, ?_, (weak_eq [] [(0, 2), (0, 3), (0, 15), (0, 1000)] (FrO (g + 1) (out ++ [k]) (th.set k true) 0 []) (by simp (config := { maxSteps := 500000 }) only [↓vp, vv, implies_true, forall_const, undef, InI, ↓reduceIte, simprocAttr, coverS, FrO, HO, netD, plnD, nRow, bRow, len_set, w_zero, List.length_append, List.length_singleton]) (by simp (config := { maxSteps := 500000 }) only [↓vp, vv, implies_true, forall_const, undef, InI, ↓reduceIte, simprocAttr, refsF, FrO, HO, netD, plnD, nRow, bRow, len_set, w_zero, List.length_append, List.length_singleton]) (by simp (config := { maxSteps := 500000 }) only [↓vp, vv, implies_true, forall_const, undef, InI, ↓reduceIte, simprocAttr, FrO, HO, netD, plnD, nRow, bRow, len_set, w_zero, List.length_append, List.length_singleton]) (by simp) (by simp (config := { maxSteps := 500000 }) only [↓vp, vv, implies_true, forall_const, undef, InI, ↓reduceIte, simprocAttr, FrO, HO, netD, plnD, nRow, bRow, len_set, w_zero, List.length_append, List.length_singleton]; try rfl)), th.set k true, out ++ [k], 0, g + 1, hI2, rfl, ?_⟩
        · rw [hm, ← hc, Nat.add_mul]
          omega
        · simp only [FrO, HO, List.map_append, List.map_cons, List.map_nil, nRow, List.length_append, List.length_singleton, len_set]
          rfl
  · have hk2 : k = n.nodes.length := by have := hI.kl; omega
    have hk' : ¬ (k : Int) < n.nodes.length := by omega
    have he : ordL (n.segs.zip p.rates) (cntF th) th out = out := ord_end fun j hj => hI.no j (by omega)
    have ho : out = ordB n p := by rw [← he]; exact hI.res
    simp (config := { maxSteps := 500000 }) only [↓vp, vv, implies_true, forall_const, undef, InI, ↓reduceIte, simprocAttr, c65, r65, c65_1, c65_2, c65_3, c65_4, c65_5, c65_6, c65_7, c65_8, c65_9, r65, FrO, HO, netD, plnD, hk', Pu]
    exact ⟨fun j _ d hd => by rw [List.mem_singleton.1 hd]; rfl, by rw [← ho]⟩
end Go.Proofs.Ytiaenojpbiahgaa
