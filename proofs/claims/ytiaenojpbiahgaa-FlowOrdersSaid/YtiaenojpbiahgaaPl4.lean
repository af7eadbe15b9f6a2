
/- Plans out of a source: the segments that lead on; the way that is laid. -/
import Derived.Test.YtiaenojpbiahgaaPl3
namespace Go.Proofs.Ytiaenojpbiahgaa
open Go
set_option linter.unusedVariables false
set_option linter.unusedSimpArgs false
set_option maxRecDepth 100000

/-- A segment that leads on. -/
def OutOk (n : Net) (R : List Int) (rate at' : Int) (k : Nat) : Prop := ∃ s r, n.segs[k]? = some s ∧ R[k]? = some r ∧ (s.fr = at' ∨ s.to = at') ∧ at' < s.fr + s.to - at' ∧ absI r + rate ≤ minC s.cap
theorem most_min (s : Seg) : most s = minC s.cap := by unfold most minC; split <;> split <;> omega
set_option maxHeartbeats 16000000 in
theorem pl5 (i : Nm) (L : List (List D)) (n : Net) (hv : NetV n) (g : Nat) (R Q : List Int) (U : List Bool) (tu : Bool) (c a at0 rate : Int) (gw : Nat) (W : List Nat) (hRl : R.length = n.segs.length) (hRb : ∀ r ∈ R, -1000 ≤ r ∧ r ≤ 1000) (hr : 1 ≤ rate ∧ rate ≤ 300) (h0 : 0 ≤ at0 ∧ at0 < 24)
    (s : St) (Qx : Ex → St → Prop) (at1 : Int) (hw : Weak [i] s ⟨fr (PF i tu c [(9, di a), (10, di at0), (11, di rate), (12, .own (i.1 + 1, 1012) gw 0 W.length), (13, di (-1)), (16, .own (i.1 + 1, 1016) 0 0 0), (139, .sl (n.segs.map Seg.row)), (140, di n.segs.length), (141, di 0)]), PH i n g R Q U L at1 (BO i gw W 0 [])⟩)
    (hX : ∀ F O go, (∀ k ∈ O, OutOk n R rate at0 k) → O.length ≤ 32 → PFk i tu c F → PFw a at0 rate i gw W (-1) F → F 16 = .own (i.1 + 1, 1016) go 0 O.length → Qx (.exit 8) ⟨F, PH i n g R Q U L at1 (BO i gw W go O)⟩) :
    vc TPl (fun t => (i.1 + 1, t)) [i] (.loop c27_8) Qx s := by
  have hsl := hv.sl
  rw [vc_loop]
  refine ⟨fun m s => ∃ O go j, j + m = n.segs.length ∧ O.length ≤ j ∧ (∀ k ∈ O, OutOk n R rate at0 k) ∧ s = ⟨fr (PF i tu c [(9, di a), (10, di at0), (11, di rate), (12, .own (i.1 + 1, 1012) gw 0 W.length), (13, di (-1)), (16, .own (i.1 + 1, 1016) go 0 O.length), (139, .sl (n.segs.map Seg.row)), (140, di n.segs.length), (141, di (j : Nat))]), PH i n g R Q U L at1 (BO i gw W go O)⟩, ⟨n.segs.length, _, hw, [], 0, 0, by omega, Nat.le_refl _, fun k hk => (by cases hk), rfl⟩, ?_⟩
  rintro m s ⟨O, go, j, hm, hO, hOk, rfl⟩
  by_cases hj : j < n.segs.length
  · have hj' : (j : Int) < n.segs.length := by omega
    have hjn := idx_nn j
    have w1 := idx_next (j := j) (by omega)
    have hjq : j < R.length := by omega
    have hjq' : (j : Int) < R.length := by omega
    have hg := getD_map Seg.row n.segs j hj
    have hg2 := iRow_at R j hjq
    have hx : n.segs[j]? = some n.segs[j] := List.getElem?_eq_getElem hj
    have hy : R[j]? = some R[j] := List.getElem?_eq_getElem hjq
    have hb := hRb _ (List.getElem_mem hjq)
    have hse := hv.se _ (List.getElem_mem hj)
    have hnl := hv.nl
    generalize n.segs[j] = x at hg hx hse
    generalize R[j] = r at hg2 hy hb
    have nx : ∀ (O' : List Nat) (go' : Nat) (F : Fr) (H : Hp), O'.length ≤ j + 1 → (∀ k ∈ O', OutOk n R rate at0 k) → PFk i tu c F → PFw a at0 rate i gw W (-1) F → F 16 = .own (i.1 + 1, 1016) go' 0 O'.length → F 139 = .sl (n.segs.map Seg.row) → F 140 = di n.segs.length → F 141 = di (j + 1 : Nat) →
        H i = some (sE L at1) → H (i.1 + 1, 3) = some ⟨0, 6, [netD n]⟩ → H (i.1 + 1, 4) = some ⟨0, 3, [[.mt, .mt, .mt]]⟩ → H (i.1 + 1, 5) = some ⟨0, 3, [[.own (i.1 + 1, 25) 0 0 R.length, .own (i.1 + 1, 29) 0 0 Q.length, .own (i.1 + 1, 1005) g 0 U.length]]⟩ → H (i.1 + 1, 25) = some ⟨0, 1, R.map iRow⟩ → H (i.1 + 1, 29) = some ⟨0, 1, Q.map iRow⟩ → H (i.1 + 1, 1005) = some ⟨g, 1, U.map bRow⟩ → H (i.1 + 1, 1012) = some ⟨gw, 1, W.map nRow⟩ → H (i.1 + 1, 1016) = some ⟨go', 1, O'.map nRow⟩ →
        ∃ k' s', k' < m ∧ Weak [i] ⟨F, H⟩ s' ∧ ∃ O go j, j + k' = n.segs.length ∧ O.length ≤ j ∧ (∀ k ∈ O, OutOk n R rate at0 k) ∧ s' = ⟨fr (PF i tu c [(9, di a), (10, di at0), (11, di rate), (12, .own (i.1 + 1, 1012) gw 0 W.length), (13, di (-1)), (16, .own (i.1 + 1, 1016) go 0 O.length), (139, .sl (n.segs.map Seg.row)), (140, di n.segs.length), (141, di (j : Nat))]), PH i n g R Q U L at1 (BO i gw W go O)⟩ := by
      rintro O' go' F H hO' hOk' ⟨f0, f3, f4, f5, f7, f8⟩ ⟨f9, f10, f11, f12, f13⟩ f16 f90 f91 f92 h0 h3 h4 h5 h25 h29 h105 h112 h116
      exact ⟨m - 1, _, by omega, (weak_eq [] [i, (i.1 + 1, 3), (i.1 + 1, 4), (i.1 + 1, 5), (i.1 + 1, 25), (i.1 + 1, 29), (i.1 + 1, 1005), (i.1 + 1, 1012), (i.1 + 1, 1016)] (PF i tu c [(9, di a), (10, di at0), (11, di rate), (12, .own (i.1 + 1, 1012) gw 0 W.length), (13, di (-1)), (16, .own (i.1 + 1, 1016) go' 0 O'.length), (139, .sl (n.segs.map Seg.row)), (140, di n.segs.length), (141, di (j + 1 : Nat))]) (by simp (config := { maxSteps := 500000 }) only [↓vp, vv, implies_true, forall_const, undef, InI, ↓reduceIte, simprocAttr, coverS, PF, PH, BO, netD, iRow, bRow, nRow, f0, f3, f4, f5, f7, f8, f9, f10, f11, f12, f13, f16, f90, f91, f92, h0, h3, h4, h5, h25, h29, h105, h112, h116]) (by simp (config := { maxSteps := 500000 }) only [↓vp, vv, implies_true, forall_const, undef, InI, ↓reduceIte, simprocAttr, refsF, PF, PH, BO, netD, iRow, bRow, nRow, f0, f3, f4, f5, f7, f8, f9, f10, f11, f12, f13, f16, f90, f91, f92, h0, h3, h4, h5, h25, h29, h105, h112, h116]) (by simp (config := { maxSteps := 500000 }) only [↓vp, vv, implies_true, forall_const, undef, InI, ↓reduceIte, simprocAttr, PF, PH, BO, netD, iRow, bRow, nRow, f0, f3, f4, f5, f7, f8, f9, f10, f11, f12, f13, f16, f90, f91, f92, h0, h3, h4, h5, h25, h29, h105, h112, h116]) (by simp) (by simp (config := { maxSteps := 500000 }) only [↓vp, vv, implies_true, forall_const, undef, InI, ↓reduceIte, simprocAttr, PF, PH, BO, netD, iRow, bRow, nRow, f0, f3, f4, f5, f7, f8, f9, f10, f11, f12, f13, f16, f90, f91, f92, h0, h3, h4, h5, h25, h29, h105, h112, h116]; try rfl)), O', go', j + 1, by omega, hO', hOk', rfl⟩
    have w2 : IntKind.i64.wrap (x.fr + x.to) = x.fr + x.to := wrap_i (by omega)
    have w3 : IntKind.i64.wrap (x.fr + x.to - at0) = x.fr + x.to - at0 := wrap_i (by omega)
    have ha : 0 ≤ absI r ∧ absI r ≤ 1000 := by unfold absI; split <;> omega
    have w4 : IntKind.i64.wrap (absI r + rate) = absI r + rate := wrap_i (by omega)
    have hm2 : (if x.cap < 1000 then x.cap else 1000) = minC x.cap := most_min x
    have hab : -1000000 ≤ r ∧ r ≤ 1000000 := by omega
    have key : ∀ (b1 b2 : Bool), (x.fr == at0) = b1 → (x.to == at0) = b2 → (b1 || b2) = false → vc TPl (fun t => (i.1 + 1, t)) [i] c27_8 (loopQ [i] (fun m s => ∃ O go j, j + m = n.segs.length ∧ O.length ≤ j ∧ (∀ k ∈ O, OutOk n R rate at0 k) ∧ s = ⟨fr (PF i tu c [(9, di a), (10, di at0), (11, di rate), (12, .own (i.1 + 1, 1012) gw 0 W.length), (13, di (-1)), (16, .own (i.1 + 1, 1016) go 0 O.length), (139, .sl (n.segs.map Seg.row)), (140, di n.segs.length), (141, di (j : Nat))]), PH i n g R Q U L at1 (BO i gw W go O)⟩) m Qx) ⟨fr (PF i tu c [(9, di a), (10, di at0), (11, di rate), (12, .own (i.1 + 1, 1012) gw 0 W.length), (13, di (-1)), (16, .own (i.1 + 1, 1016) go 0 O.length), (139, .sl (n.segs.map Seg.row)), (140, di n.segs.length), (141, di (j : Nat))]), PH i n g R Q U L at1 (BO i gw W go O)⟩ := by
      intro b1 b2 c1 c2 hbb
      cases b1 with
      | true => cases hbb
      | false =>
        cases b2 with
        | true => cases hbb
        | false =>
          simp (config := { maxSteps := 500000 }) only [↓vp, vv, implies_true, forall_const, undef, InI, ↓reduceIte, simprocAttr, c27_8, c27_7, c27_6, TPl, PF, PH, BO, netD, hj', hjn, Int.toNat_natCast, hg, Seg.row, c1, c2, w1]
          refine nx O go _ _ (by omega) hOk ⟨?_, ?_, ?_, ?_, ?_, ?_⟩ ⟨?_, ?_, ?_, ?_, ?_⟩ ?_ ?_ ?_ ?_ ?_ ?_ ?_ ?_ ?_ ?_ ?_ ?_ ?_ <;> simp (config := { maxSteps := 500000 }) only [↓vp, vv, implies_true, forall_const, undef, InI, ↓reduceIte, simprocAttr, netD, w1]
    have y1 : (O.length + 1) * 8 ≤ 140737488355328 := by omega
    have y2 : O.length + 1 ≤ 4611686018427387904 := by omega
    cases c1 : (x.fr == at0) with
    | true =>
      cases c3 : decide (at0 < x.fr + x.to - at0) with
      | false =>
        simp (config := { maxSteps := 500000 }) only [↓vp, vv, implies_true, forall_const, undef, InI, ↓reduceIte, simprocAttr, c27_8, c27_7, c27_6, TPl, selAbs, PF, PH, BO, netD, hj', hjn, hjq, hjq', Int.toNat_natCast, hg, hg2, hab, hm2, w2, w3, w4, Seg.row, c1, c3, w1]
        refine nx O go _ _ (by omega) hOk ⟨?_, ?_, ?_, ?_, ?_, ?_⟩ ⟨?_, ?_, ?_, ?_, ?_⟩ ?_ ?_ ?_ ?_ ?_ ?_ ?_ ?_ ?_ ?_ ?_ ?_ ?_ <;> simp (config := { maxSteps := 500000 }) only [↓vp, vv, implies_true, forall_const, undef, InI, ↓reduceIte, simprocAttr, netD, w1, nRow, List.map_append]
      | true =>
        cases c4 : decide (absI r + rate ≤ minC x.cap) with
        | false =>
          simp (config := { maxSteps := 500000 }) only [↓vp, vv, implies_true, forall_const, undef, InI, ↓reduceIte, simprocAttr, c27_8, c27_7, c27_6, TPl, selAbs, PF, PH, BO, netD, hj', hjn, hjq, hjq', Int.toNat_natCast, hg, hg2, hab, hm2, w2, w3, w4, Seg.row, c1, c3, c4, w1]
          refine nx O go _ _ (by omega) hOk ⟨?_, ?_, ?_, ?_, ?_, ?_⟩ ⟨?_, ?_, ?_, ?_, ?_⟩ ?_ ?_ ?_ ?_ ?_ ?_ ?_ ?_ ?_ ?_ ?_ ?_ ?_ <;> simp (config := { maxSteps := 500000 }) only [↓vp, vv, implies_true, forall_const, undef, InI, ↓reduceIte, simprocAttr, netD, w1, nRow, List.map_append]
        | true =>
          have hnew : OutOk n R rate at0 j := ⟨x, r, hx, hy, (.inl (by simpa using c1)), by simpa using c3, by simpa using c4⟩
          simp (config := { maxSteps := 500000 }) only [↓vp, vv, implies_true, forall_const, undef, InI, ↓reduceIte, simprocAttr, c27_8, c27_7, c27_6, TPl, selAbs, PF, PH, BO, netD, hj', hjn, hjq, hjq', Int.toNat_natCast, hg, hg2, hab, hm2, w2, w3, w4, Seg.row, c1, c3, c4, y1, y2, w1]
          refine nx (O ++ [j]) (go + 1) _ _ (by rw [List.length_append, List.length_singleton]; omega) (fun k hk => by
            rcases List.mem_append.1 hk with hk | hk
            · exact hOk k hk
            · rw [List.mem_singleton.1 hk]; exact hnew) ⟨?_, ?_, ?_, ?_, ?_, ?_⟩ ⟨?_, ?_, ?_, ?_, ?_⟩ ?_ ?_ ?_ ?_ ?_ ?_ ?_ ?_ ?_ ?_ ?_ ?_ ?_ <;> simp (config := { maxSteps := 500000 }) only [↓vp, vv, implies_true, forall_const, undef, InI, ↓reduceIte, simprocAttr, netD, w1, nRow, List.map_append]
    | false =>
      cases c2 : (x.to == at0) with
      | true =>
        cases c3 : decide (at0 < x.fr + x.to - at0) with
        | false =>
          simp (config := { maxSteps := 500000 }) only [↓vp, vv, implies_true, forall_const, undef, InI, ↓reduceIte, simprocAttr, c27_8, c27_7, c27_6, TPl, selAbs, PF, PH, BO, netD, hj', hjn, hjq, hjq', Int.toNat_natCast, hg, hg2, hab, hm2, w2, w3, w4, Seg.row, c1, c2, c3, w1]
          refine nx O go _ _ (by omega) hOk ⟨?_, ?_, ?_, ?_, ?_, ?_⟩ ⟨?_, ?_, ?_, ?_, ?_⟩ ?_ ?_ ?_ ?_ ?_ ?_ ?_ ?_ ?_ ?_ ?_ ?_ ?_ <;> simp (config := { maxSteps := 500000 }) only [↓vp, vv, implies_true, forall_const, undef, InI, ↓reduceIte, simprocAttr, netD, w1, nRow, List.map_append]
        | true =>
          cases c4 : decide (absI r + rate ≤ minC x.cap) with
          | false =>
            simp (config := { maxSteps := 500000 }) only [↓vp, vv, implies_true, forall_const, undef, InI, ↓reduceIte, simprocAttr, c27_8, c27_7, c27_6, TPl, selAbs, PF, PH, BO, netD, hj', hjn, hjq, hjq', Int.toNat_natCast, hg, hg2, hab, hm2, w2, w3, w4, Seg.row, c1, c2, c3, c4, w1]
            refine nx O go _ _ (by omega) hOk ⟨?_, ?_, ?_, ?_, ?_, ?_⟩ ⟨?_, ?_, ?_, ?_, ?_⟩ ?_ ?_ ?_ ?_ ?_ ?_ ?_ ?_ ?_ ?_ ?_ ?_ ?_ <;> simp (config := { maxSteps := 500000 }) only [↓vp, vv, implies_true, forall_const, undef, InI, ↓reduceIte, simprocAttr, netD, w1, nRow, List.map_append]
          | true =>
            have hnew : OutOk n R rate at0 j := ⟨x, r, hx, hy, (.inr (by simpa using c2)), by simpa using c3, by simpa using c4⟩
            simp (config := { maxSteps := 500000 }) only [↓vp, vv, implies_true, forall_const, undef, InI, ↓reduceIte, simprocAttr, c27_8, c27_7, c27_6, TPl, selAbs, PF, PH, BO, netD, hj', hjn, hjq, hjq', Int.toNat_natCast, hg, hg2, hab, hm2, w2, w3, w4, Seg.row, c1, c2, c3, c4, y1, y2, w1]
            refine nx (O ++ [j]) (go + 1) _ _ (by rw [List.length_append, List.length_singleton]; omega) (fun k hk => by
              rcases List.mem_append.1 hk with hk | hk
              · exact hOk k hk
              · rw [List.mem_singleton.1 hk]; exact hnew) ⟨?_, ?_, ?_, ?_, ?_, ?_⟩ ⟨?_, ?_, ?_, ?_, ?_⟩ ?_ ?_ ?_ ?_ ?_ ?_ ?_ ?_ ?_ ?_ ?_ ?_ ?_ <;> simp (config := { maxSteps := 500000 }) only [↓vp, vv, implies_true, forall_const, undef, InI, ↓reduceIte, simprocAttr, netD, w1, nRow, List.map_append]
      | false => exact key _ _ c1 c2 rfl
  · have hj2 : j = n.segs.length := by omega
    have hj' : ¬ (j : Int) < n.segs.length := by omega
    simp (config := { maxSteps := 500000 }) only [↓vp, vv, implies_true, forall_const, undef, InI, ↓reduceIte, simprocAttr, c27_8, PF, hj']
    refine hX _ O go hOk (by omega) ⟨?_, ?_, ?_, ?_, ?_, ?_⟩ ⟨?_, ?_, ?_, ?_, ?_⟩ ?_ <;> simp (config := { maxSteps := 500000 }) only [↓vp, vv, implies_true, forall_const, undef, InI, ↓reduceIte, simprocAttr, ]
end Go.Proofs.Ytiaenojpbiahgaa
