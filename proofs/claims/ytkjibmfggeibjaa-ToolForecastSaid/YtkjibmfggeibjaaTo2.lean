
/- Tools: valid, copied, received, moved. -/
import Derived.Test.YtkjibmfggeibjaaTo1
import Derived.Test.YtkjibmfggeibjaaCodeTO
namespace Go.Proofs.Ytkjibmfggeibjaa
open Go
set_option linter.unusedVariables false
set_option linter.unusedSimpArgs false
set_option maxRecDepth 100000

theorem seg_at {n : Net} (hv : NetV n) {h : Int × Bool} (h1 : 0 ≤ h.1 ∧ h.1 < n.segs.length) : ∃ s : Seg, (n.segs.map Seg.row).getD h.1.toNat [] = s.row ∧ tEnds n h = (if h.2 = true then (s.to, s.fr) else (s.fr, s.to)) ∧ tCap n h = s.cap ∧ (0 ≤ s.fr ∧ s.fr < n.nodes.length) ∧ (0 ≤ s.to ∧ s.to < n.nodes.length) ∧ 1 ≤ s.cap ∧ s.cap ≤ 1000000 := by
  have hk : h.1.toNat < n.segs.length := by omega
  have hse := hv.se _ (List.getElem_mem hk)
  refine ⟨n.segs[h.1.toNat], getD_map Seg.row n.segs _ hk, ?_, ?_, hse.1, hse.2.1, hse.2.2.2⟩
  · unfold tEnds; rw [List.getElem?_eq_getElem hk]
  · unfold tCap; rw [List.getElem?_eq_getElem hk]
def VlF (t : Tol) (a : Int) (l : List (Nat × D)) : List (Nat × D) := (2, .ptr (0, 2) 0 0 0) :: (3, .ptr (0, 3) 0 0 0) :: (5, di a) :: l
def VlH (n : Net) (t : Tol) : Hp := (Hp.none.put (0, 3) ⟨0, 3, [t.row]⟩).put (0, 2) ⟨0, 6, [netD n]⟩
def VlI (n : Net) (t : Tol) (B : Bool) : Nat → St → Prop := fun k st => ∃ (j : Nat) (a : Int), j + k = t.way.length ∧ -1 ≤ a ∧ chnB n a (t.way.drop j) = B ∧ st = ⟨fr (VlF t a [(21, .sl (t.way.map tHop)), (22, di t.way.length), (23, di j)]), VlH n t⟩
def VlQ (n : Net) (t : Tol) : Ex → St → Prop := finQ r75 [] false (Pu (db (tolV n t)) Hp.none)
set_option maxHeartbeats 8000000 in
theorem vl_end (n : Net) (hv : NetV n) (t : Tol) (hl : ¬ ((if decide ((t.way.length : Int) < 1) = true then true else decide ((32 : Int) < t.way.length)) = true)) (hc : chnB n (-1) t.way = true) (F : Fr) (H : Hp) (hwk : Weak [] ⟨F, H⟩ ⟨fr [(2, .ptr (0, 2) 0 0 0), (3, .ptr (0, 3) 0 0 0)], VlH n t⟩) : vc T0 (fun t => (0, t)) [] (.weak c75_8) (VlQ n t) ⟨F, H⟩ := by
  refine vc_wk hwk ?_
  unfold VlQ
  have hin := chn_in hc
  have hV : tolV n t = posB n t := by unfold tolV; rw [if_neg hl, if_pos hc]
  rw [hV]
  unfold posB
  cases c1 : (t.hop == (t.way.length : Int)) with
  | true =>
    rw [if_pos rfl]
    simp (config := { maxSteps := 500000 }) only [↓vp, vv, implies_true, forall_const, undef, InI, ↓reduceIte, simprocAttr, c75_8, r75, VlF, VlH, netD, Tol.row, c1, Pu]
  | false =>
    rw [if_neg (by simp)]
    cases c2 : decide (0 ≤ t.hop) with
    | false =>
      rw [if_neg (by simp)]
      simp (config := { maxSteps := 500000 }) only [↓vp, vv, implies_true, forall_const, undef, InI, ↓reduceIte, simprocAttr, c75_8, c75_7, r75, VlF, VlH, netD, Tol.row, c1, c2, Pu]
    | true =>
      rw [if_pos rfl]
      cases c3 : decide (t.hop < (t.way.length : Int)) with
      | false =>
        rw [if_neg (by simp)]
        simp (config := { maxSteps := 500000 }) only [↓vp, vv, implies_true, forall_const, undef, InI, ↓reduceIte, simprocAttr, c75_8, c75_7, r75, VlF, VlH, netD, Tol.row, c1, c2, c3, Pu]
      | true =>
        rw [if_pos rfl]
        cases c4 : decide (0 ≤ t.pos) with
        | false =>
          rw [if_neg (by simp)]
          simp (config := { maxSteps := 500000 }) only [↓vp, vv, implies_true, forall_const, undef, InI, ↓reduceIte, simprocAttr, c75_8, c75_7, r75, VlF, VlH, netD, Tol.row, c1, c2, c3, c4, Pu]
        | true =>
          rw [if_pos rfl]
          have q2 : 0 ≤ t.hop := by simpa using c2
          have q3 : t.hop < (t.way.length : Int) := by simpa using c3
          have q4 : t.hop.toNat < t.way.length := by omega
          have gw := tHop_g t.way t.hop.toNat q4
          rw [way_get q4]
          obtain ⟨sg, gs, _, hcap, _⟩ := seg_at hv (hin _ (List.getElem_mem q4))
          have hi := hin _ (List.getElem_mem q4)
          rw [hcap]
          generalize t.way[t.hop.toNat] = y at gw gs hi
          obtain ⟨k, b⟩ := y
          obtain ⟨u1, u2⟩ := hi
          dsimp only at u1 u2 gs
          simp (config := { maxSteps := 500000 }) only [↓vp, vv, implies_true, forall_const, undef, InI, ↓reduceIte, simprocAttr, c75_8, c75_7, r75, VlF, VlH, netD, Tol.row, c1, c2, c3, c4, q2, q3, gw, tHop, gs, Seg.row, u1, u2, Pu]
set_option maxHeartbeats 8000000 in
theorem valid_c (n : Net) (hv : NetV n) (t : Tol) (hw : t.way.length ≤ 1000000) (nn : Nm) : CallsA Try.prog 75 [n.enc, t.enc] Hp.none nn (Pu (db (tolV n t)) Hp.none) := by
  obtain ⟨code, h1, h2⟩ := c75_ok
  refine callsA_of (T0_ok _) mixed (N := fun t => (0, t)) Try.func75 h1 h2 r75_ok [] false js_nil js_nil' (by simp [Try.f75]) ?_
  have hsl := hv.sl
  cases c1 : decide ((t.way.length : Int) < 1) with
  | true =>
    have hV : tolV n t = false := by unfold tolV; rw [c1, if_pos rfl, if_pos rfl]
    rw [hV]
    simp (config := { maxSteps := 500000 }) only [↓vp, vv, implies_true, forall_const, undef, InI, ↓reduceIte, simprocAttr, c75, r75, Net.enc, netD, Tol.enc, Tol.row, c1, Pu]
  | false =>
    cases c2 : decide ((32 : Int) < t.way.length) with
    | true =>
      have hV : tolV n t = false := by unfold tolV; rw [c1, if_neg Bool.false_ne_true, c2, if_pos rfl]
      rw [hV]
      simp (config := { maxSteps := 500000 }) only [↓vp, vv, implies_true, forall_const, undef, InI, ↓reduceIte, simprocAttr, c75, r75, Net.enc, netD, Tol.enc, Tol.row, c1, c2, Pu]
    | false =>
      have hl : ¬ ((if decide ((t.way.length : Int) < 1) = true then true else decide ((32 : Int) < t.way.length)) = true) := by rw [c1, c2, if_neg Bool.false_ne_true]; exact Bool.false_ne_true
      have hVf : chnB n (-1) t.way = false → tolV n t = false := fun e => by unfold tolV; rw [if_neg hl, e, if_neg Bool.false_ne_true]
      generalize hB : chnB n (-1) t.way = B at hVf
      simp (config := { maxSteps := 500000 }) only [↓vp, vv, implies_true, forall_const, undef, InI, ↓reduceIte, simprocAttr, c75, c75_9, Net.enc, netD, Tol.enc, Tol.row, c1, c2]
      rw [vc_loop]
      refine ⟨VlI n t B, ⟨t.way.length, _, (weak_eq [] [(0, 2), (0, 3)] (VlF t (-1) [(21, .sl (t.way.map tHop)), (22, di t.way.length), (23, di 0)]) (by simp (config := { maxSteps := 500000 }) only [↓vp, vv, implies_true, forall_const, undef, InI, ↓reduceIte, simprocAttr, coverS, VlF, VlH, netD, Tol.row]) (by simp (config := { maxSteps := 500000 }) only [↓vp, vv, implies_true, forall_const, undef, InI, ↓reduceIte, simprocAttr, refsF, VlF, VlH, netD, Tol.row]) (by simp (config := { maxSteps := 500000 }) only [↓vp, vv, implies_true, forall_const, undef, InI, ↓reduceIte, simprocAttr, VlF, VlH, netD, Tol.row]) (by simp) (by simp (config := { maxSteps := 500000 }) only [↓vp, vv, implies_true, forall_const, undef, InI, ↓reduceIte, simprocAttr, VlF, VlH, netD, Tol.row]; try rfl)), 0, -1, by omega, by omega, hB, rfl⟩, ?_⟩
      rintro k st ⟨j, a, hjk, ha, hch, rfl⟩
      by_cases hj : j < t.way.length
      · have hj' : (j : Int) < t.way.length := by omega
        have hjn := idx_nn j
        have w1 := idx_next (j := j) (by omega)
        have gw := tHop_g t.way j hj
        rw [List.drop_eq_getElem_cons hj] at hch
        generalize t.way[j] = y at gw hch
        unfold chnB at hch
        obtain ⟨q, b⟩ := y
        unfold tUnk at hch
        dsimp only at hch
        cases d1 : decide (q < 0) with
        | true =>
          rw [d1, if_pos rfl, if_pos rfl] at hch
          have hV := hVf hch.symm
          simp (config := { maxSteps := 500000 }) only [↓vp, vv, implies_true, forall_const, undef, InI, ↓reduceIte, simprocAttr, c75_6, c75_5, r75, VlF, VlH, netD, Tol.row, hj', hjn, Int.toNat_natCast, gw, tHop, d1, hV, Pu]
        | false =>
          rw [d1, if_neg Bool.false_ne_true] at hch
          cases d2 : decide ((n.segs.length : Int) ≤ q) with
          | true =>
            rw [d2, if_pos rfl] at hch
            have hV := hVf hch.symm
            simp (config := { maxSteps := 500000 }) only [↓vp, vv, implies_true, forall_const, undef, InI, ↓reduceIte, simprocAttr, c75_6, c75_5, r75, VlF, VlH, netD, Tol.row, hj', hjn, Int.toNat_natCast, gw, tHop, d1, d2, hV, Pu]
          | false =>
            rw [d2, if_neg Bool.false_ne_true] at hch
            have u1 : 0 ≤ q := by simpa using d1
            have u2 : q < (n.segs.length : Int) := by have := of_decide_eq_false d2; omega
            obtain ⟨sg, gs, he, _, s1, s2, _⟩ := seg_at hv (h := (q, b)) ⟨u1, u2⟩
            dsimp only at gs he
            cases b
            · rw [if_neg Bool.false_ne_true] at he
              rw [he] at hch
              dsimp only at hch
              cases d3 : decide (0 ≤ a) with
              | false =>
                rw [d3, if_neg Bool.false_ne_true, if_neg Bool.false_ne_true] at hch
                simp (config := { maxSteps := 500000 }) only [↓vp, vv, implies_true, forall_const, undef, InI, ↓reduceIte, simprocAttr, c75_6, c75_5, c75_4, c75_3, c75_2, c75_1, VlF, VlH, netD, Tol.row, hj', hjn, Int.toNat_natCast, gw, tHop, d1, d2, u1, u2, gs, Seg.row, d3, w1]
                exact ⟨k - 1, _, by omega, (weak_eq [] [(0, 2), (0, 3)] (VlF t sg.to [(21, .sl (t.way.map tHop)), (22, di t.way.length), (23, di (j + 1 : Nat))]) (by simp (config := { maxSteps := 500000 }) only [↓vp, vv, implies_true, forall_const, undef, InI, ↓reduceIte, simprocAttr, coverS, VlF, VlH, netD, Tol.row, w1]) (by simp (config := { maxSteps := 500000 }) only [↓vp, vv, implies_true, forall_const, undef, InI, ↓reduceIte, simprocAttr, refsF, VlF, VlH, netD, Tol.row, w1]) (by simp (config := { maxSteps := 500000 }) only [↓vp, vv, implies_true, forall_const, undef, InI, ↓reduceIte, simprocAttr, VlF, VlH, netD, Tol.row, w1]) (by simp) (by simp (config := { maxSteps := 500000 }) only [↓vp, vv, implies_true, forall_const, undef, InI, ↓reduceIte, simprocAttr, VlF, VlH, netD, Tol.row, w1]; try rfl)), j + 1, sg.to, by omega, by omega, hch, rfl⟩
              | true =>
                rw [d3, if_pos rfl] at hch
                cases d4 : (a != sg.fr) with
                | true =>
                  rw [d4, if_pos rfl] at hch
                  have hV := hVf hch.symm
                  simp (config := { maxSteps := 500000 }) only [↓vp, vv, implies_true, forall_const, undef, InI, ↓reduceIte, simprocAttr, c75_6, c75_5, c75_4, c75_3, c75_2, c75_1, r75, VlF, VlH, netD, Tol.row, hj', hjn, Int.toNat_natCast, gw, tHop, d1, d2, u1, u2, gs, Seg.row, d3, d4, hV, Pu]
                | false =>
                  rw [d4, if_neg Bool.false_ne_true] at hch
                  simp (config := { maxSteps := 500000 }) only [↓vp, vv, implies_true, forall_const, undef, InI, ↓reduceIte, simprocAttr, c75_6, c75_5, c75_4, c75_3, c75_2, c75_1, VlF, VlH, netD, Tol.row, hj', hjn, Int.toNat_natCast, gw, tHop, d1, d2, u1, u2, gs, Seg.row, d3, d4, w1]
                  exact ⟨k - 1, _, by omega, (weak_eq [] [(0, 2), (0, 3)] (VlF t sg.to [(21, .sl (t.way.map tHop)), (22, di t.way.length), (23, di (j + 1 : Nat))]) (by simp (config := { maxSteps := 500000 }) only [↓vp, vv, implies_true, forall_const, undef, InI, ↓reduceIte, simprocAttr, coverS, VlF, VlH, netD, Tol.row, w1]) (by simp (config := { maxSteps := 500000 }) only [↓vp, vv, implies_true, forall_const, undef, InI, ↓reduceIte, simprocAttr, refsF, VlF, VlH, netD, Tol.row, w1]) (by simp (config := { maxSteps := 500000 }) only [↓vp, vv, implies_true, forall_const, undef, InI, ↓reduceIte, simprocAttr, VlF, VlH, netD, Tol.row, w1]) (by simp) (by simp (config := { maxSteps := 500000 }) only [↓vp, vv, implies_true, forall_const, undef, InI, ↓reduceIte, simprocAttr, VlF, VlH, netD, Tol.row, w1]; try rfl)), j + 1, sg.to, by omega, by omega, hch, rfl⟩
            · rw [if_pos rfl] at he
              rw [he] at hch
              dsimp only at hch
              cases d3 : decide (0 ≤ a) with
              | false =>
                rw [d3, if_neg Bool.false_ne_true, if_neg Bool.false_ne_true] at hch
                simp (config := { maxSteps := 500000 }) only [↓vp, vv, implies_true, forall_const, undef, InI, ↓reduceIte, simprocAttr, c75_6, c75_5, c75_4, c75_3, c75_2, c75_1, VlF, VlH, netD, Tol.row, hj', hjn, Int.toNat_natCast, gw, tHop, d1, d2, u1, u2, gs, Seg.row, d3, w1]
                exact ⟨k - 1, _, by omega, (weak_eq [] [(0, 2), (0, 3)] (VlF t sg.fr [(21, .sl (t.way.map tHop)), (22, di t.way.length), (23, di (j + 1 : Nat))]) (by simp (config := { maxSteps := 500000 }) only [↓vp, vv, implies_true, forall_const, undef, InI, ↓reduceIte, simprocAttr, coverS, VlF, VlH, netD, Tol.row, w1]) (by simp (config := { maxSteps := 500000 }) only [↓vp, vv, implies_true, forall_const, undef, InI, ↓reduceIte, simprocAttr, refsF, VlF, VlH, netD, Tol.row, w1]) (by simp (config := { maxSteps := 500000 }) only [↓vp, vv, implies_true, forall_const, undef, InI, ↓reduceIte, simprocAttr, VlF, VlH, netD, Tol.row, w1]) (by simp) (by simp (config := { maxSteps := 500000 }) only [↓vp, vv, implies_true, forall_const, undef, InI, ↓reduceIte, simprocAttr, VlF, VlH, netD, Tol.row, w1]; try rfl)), j + 1, sg.fr, by omega, by omega, hch, rfl⟩
              | true =>
                rw [d3, if_pos rfl] at hch
                cases d4 : (a != sg.to) with
                | true =>
                  rw [d4, if_pos rfl] at hch
                  have hV := hVf hch.symm
                  simp (config := { maxSteps := 500000 }) only [↓vp, vv, implies_true, forall_const, undef, InI, ↓reduceIte, simprocAttr, c75_6, c75_5, c75_4, c75_3, c75_2, c75_1, r75, VlF, VlH, netD, Tol.row, hj', hjn, Int.toNat_natCast, gw, tHop, d1, d2, u1, u2, gs, Seg.row, d3, d4, hV, Pu]
                | false =>
                  rw [d4, if_neg Bool.false_ne_true] at hch
                  simp (config := { maxSteps := 500000 }) only [↓vp, vv, implies_true, forall_const, undef, InI, ↓reduceIte, simprocAttr, c75_6, c75_5, c75_4, c75_3, c75_2, c75_1, VlF, VlH, netD, Tol.row, hj', hjn, Int.toNat_natCast, gw, tHop, d1, d2, u1, u2, gs, Seg.row, d3, d4, w1]
                  exact ⟨k - 1, _, by omega, (weak_eq [] [(0, 2), (0, 3)] (VlF t sg.fr [(21, .sl (t.way.map tHop)), (22, di t.way.length), (23, di (j + 1 : Nat))]) (by simp (config := { maxSteps := 500000 }) only [↓vp, vv, implies_true, forall_const, undef, InI, ↓reduceIte, simprocAttr, coverS, VlF, VlH, netD, Tol.row, w1]) (by simp (config := { maxSteps := 500000 }) only [↓vp, vv, implies_true, forall_const, undef, InI, ↓reduceIte, simprocAttr, refsF, VlF, VlH, netD, Tol.row, w1]) (by simp (config := { maxSteps := 500000 }) only [↓vp, vv, implies_true, forall_const, undef, InI, ↓reduceIte, simprocAttr, VlF, VlH, netD, Tol.row, w1]) (by simp) (by simp (config := { maxSteps := 500000 }) only [↓vp, vv, implies_true, forall_const, undef, InI, ↓reduceIte, simprocAttr, VlF, VlH, netD, Tol.row, w1]; try rfl)), j + 1, sg.fr, by omega, by omega, hch, rfl⟩
      · have hj' : ¬ (j : Int) < t.way.length := by omega
        rw [List.drop_of_length_le (by omega)] at hch
        have hc : chnB n (-1) t.way = true := hB.trans hch.symm
        have ve := vl_end n hv t hl hc
        unfold VlQ at ve
        simp (config := { maxSteps := 500000 }) only [↓vp, vv, implies_true, forall_const, undef, InI, ↓reduceIte, simprocAttr, c75_6, VlF, VlH, netD, Tol.row, hj']
        exact ve _ _ (weak_eq [] [(0, 2), (0, 3)] [(2, .ptr (0, 2) 0 0 0), (3, .ptr (0, 3) 0 0 0)] (by simp (config := { maxSteps := 500000 }) only [↓vp, vv, implies_true, forall_const, undef, InI, ↓reduceIte, simprocAttr, coverS, VlH, netD, Tol.row]) (by simp (config := { maxSteps := 500000 }) only [↓vp, vv, implies_true, forall_const, undef, InI, ↓reduceIte, simprocAttr, refsF, VlH, netD, Tol.row]) (by simp (config := { maxSteps := 500000 }) only [↓vp, vv, implies_true, forall_const, undef, InI, ↓reduceIte, simprocAttr, VlH, netD, Tol.row]) (by simp) (by simp (config := { maxSteps := 500000 }) only [↓vp, vv, implies_true, forall_const, undef, InI, ↓reduceIte, simprocAttr, VlH, netD, Tol.row]; try rfl))
end Go.Proofs.Ytkjibmfggeibjaa
