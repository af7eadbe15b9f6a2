
/- Plans out of a source: a way. -/
import Derived.Test.YtiaenojpbiahgaaPl5
namespace Go.Proofs.Ytiaenojpbiahgaa
open Go
set_option linter.unusedVariables false
set_option linter.unusedSimpArgs false
set_option maxRecDepth 100000

set_option maxHeartbeats 16000000 in
theorem pl3 (i : Nm) (L : List (List D)) (n : Net) (hv : NetV n) (g : Nat) (R Q : List Int) (U : List Bool) (tu : Bool) (c a a0 rate : Int) (hPR : PR n R) (hQl : Q.length = n.ports.length) (hQb : ∀ r ∈ Q, -1000 ≤ r ∧ r ≤ 1000) (hr : 1 ≤ rate ∧ rate ≤ 300) (h0 : 0 ≤ a0 ∧ a0 < n.nodes.length)
    (s : St) (Qx : Ex → St → Prop) (at1 : Int) (o1 : SrcOk L at1) (hw : Weak [i] s ⟨fr (PF i tu c [(9, di a), (10, di a0), (11, di rate), (12, .own (i.1 + 1, 1012) 0 0 0), (13, di (-1))]), PH i n g R Q U L at1 (BW i 0 [])⟩)
    (hX : ∀ F B at2 W gw e at0, SrcOk L at2 → Way n R rate a0 at0 W → W.length ≤ 24 → (e = -1 ∨ EndOk n Q a rate at0 e) → PFk i tu c F → PFw a at0 rate i gw W e F → B (i.1 + 1, 1012) = some ⟨gw, 1, W.map nRow⟩ → Qx (.exit 4) ⟨F, PH i n g R Q U L at2 B⟩) :
    vc TPl (fun t => (i.1 + 1, t)) [i] (.loop c27_14) Qx s := by
  have hnl := hv.nl
  have hql := hv.ql
  rw [vc_loop]
  refine ⟨fun m s => ∃ at' W gw at0, SrcOk L at' ∧ Way n R rate a0 at0 W ∧ (0 ≤ at0 ∧ at0 < n.nodes.length) ∧ at0 + m = n.nodes.length ∧ W.length + m ≤ 24 ∧ s = ⟨fr (PF i tu c [(9, di a), (10, di at0), (11, di rate), (12, .own (i.1 + 1, 1012) gw 0 W.length), (13, di (-1))]), PH i n g R Q U L at' (BW i gw W)⟩, ⟨(n.nodes.length - a0).toNat, _, hw, at1, [], 0, a0, o1, Way.nil n R rate a0, h0, by omega, by simp; omega, rfl⟩, ?_⟩
  rintro m s ⟨at2, W, gw, at0, o2, hW, hat, hm, hWl, rfl⟩
  simp (config := { maxSteps := 500000 }) only [↓vp, vv, implies_true, forall_const, undef, InI, ↓reduceIte, simprocAttr, c27_14, c27_13, TPl, PF, PH, BW, netD]
  refine pl4 i L n g R Q U tu c a at0 rate gw W (by omega) hQl hQb hr _ _ at2 o2 (weak_eq [] [i, (i.1 + 1, 3), (i.1 + 1, 4), (i.1 + 1, 5), (i.1 + 1, 25), (i.1 + 1, 29), (i.1 + 1, 1005), (i.1 + 1, 1012)] (PF i tu c [(9, di a), (10, di at0), (11, di rate), (12, .own (i.1 + 1, 1012) gw 0 W.length), (13, di (-1)), (90, .sl (n.ports.map Port.row)), (91, di n.ports.length), (92, di 0)]) (by simp (config := { maxSteps := 500000 }) only [↓vp, vv, implies_true, forall_const, undef, InI, ↓reduceIte, simprocAttr, coverS, PF, PH, BW, netD, iRow, bRow, nRow]) (by simp (config := { maxSteps := 500000 }) only [↓vp, vv, implies_true, forall_const, undef, InI, ↓reduceIte, simprocAttr, refsF, PF, PH, BW, netD, iRow, bRow, nRow]) (by simp (config := { maxSteps := 500000 }) only [↓vp, vv, implies_true, forall_const, undef, InI, ↓reduceIte, simprocAttr, PF, PH, BW, netD, iRow, bRow, nRow]) (by simp) (by simp (config := { maxSteps := 500000 }) only [↓vp, vv, implies_true, forall_const, undef, InI, ↓reduceIte, simprocAttr, PF, PH, BW, netD, iRow, bRow, nRow]; try rfl)) ?_
  rintro F at3 e o3 he hF hFw
  obtain ⟨f0, f3, f4, f5, f7, f8⟩ := hF
  obtain ⟨f9, f10, f11, f12, f13⟩ := hFw
  rcases he with he | he
  · subst he
    simp (config := { maxSteps := 500000 }) only [↓vp, vv, implies_true, forall_const, undef, InI, ↓reduceIte, simprocAttr, c27_12, c27_11, TPl, PF, PH, BW, netD, f0, f3, f4, f5, f7, f8, f9, f10, f11, f12, f13]
    refine pl5 i L n hv g R Q U tu c a at0 rate gw W hPR.rl (pr_b hPR) hr (by omega) _ _ at3 ((weak_own 16 (i.1 + 1, 1016) 1 (by simp (config := { maxSteps := 500000 }) only [↓vp, vv, implies_true, forall_const, undef, InI, ↓reduceIte, simprocAttr, ]) (by simp (config := { maxSteps := 500000 }) only [↓vp, vv, implies_true, forall_const, undef, InI, ↓reduceIte, simprocAttr, PH, BW])).trans (weak_eq [] [i, (i.1 + 1, 3), (i.1 + 1, 4), (i.1 + 1, 5), (i.1 + 1, 25), (i.1 + 1, 29), (i.1 + 1, 1005), (i.1 + 1, 1012), (i.1 + 1, 1016)] (PF i tu c [(9, di a), (10, di at0), (11, di rate), (12, .own (i.1 + 1, 1012) gw 0 W.length), (13, di (-1)), (16, .own (i.1 + 1, 1016) 0 0 0), (139, .sl (n.segs.map Seg.row)), (140, di n.segs.length), (141, di 0)]) (by simp (config := { maxSteps := 500000 }) only [↓vp, vv, implies_true, forall_const, undef, InI, ↓reduceIte, simprocAttr, coverS, PF, PH, BW, BO, netD, iRow, bRow, nRow, f0, f3, f4, f5, f7, f8, f9, f10, f11, f12, f13]) (by simp (config := { maxSteps := 500000 }) only [↓vp, vv, implies_true, forall_const, undef, InI, ↓reduceIte, simprocAttr, refsF, PF, PH, BW, BO, netD, iRow, bRow, nRow, f0, f3, f4, f5, f7, f8, f9, f10, f11, f12, f13]) (by simp (config := { maxSteps := 500000 }) only [↓vp, vv, implies_true, forall_const, undef, InI, ↓reduceIte, simprocAttr, PF, PH, BW, BO, netD, iRow, bRow, nRow, f0, f3, f4, f5, f7, f8, f9, f10, f11, f12, f13]) (by simp) (by simp (config := { maxSteps := 500000 }) only [↓vp, vv, implies_true, forall_const, undef, InI, ↓reduceIte, simprocAttr, PF, PH, BW, BO, netD, iRow, bRow, nRow, f0, f3, f4, f5, f7, f8, f9, f10, f11, f12, f13]; try rfl))) ?_
    rintro F2 O go hO hOl hF hFw f16
    obtain ⟨f0, f3, f4, f5, f7, f8⟩ := hF
    obtain ⟨f9, f10, f11, f12, f13⟩ := hFw
    cases c1 : ((O.length : Int) == 0) with
    | true =>
      simp (config := { maxSteps := 500000 }) only [↓vp, vv, implies_true, forall_const, undef, InI, ↓reduceIte, simprocAttr, c27_10, TPl, PF, netD, f0, f3, f4, f5, f7, f8, f9, f10, f11, f12, f13, f16, c1]
      refine hX _ _ at3 W gw (-1) at0 o3 hW (by omega) (.inl rfl) ⟨?_, ?_, ?_, ?_, ?_, ?_⟩ ⟨?_, ?_, ?_, ?_, ?_⟩ ?_ <;> simp (config := { maxSteps := 500000 }) only [↓vp, vv, implies_true, forall_const, undef, InI, ↓reduceIte, simprocAttr, BO, f0, f3, f4, f5, f7, f8, f9, f10, f11, f12, f13]
    | false =>
      have hOp : 1 ≤ O.length := by
        have : ¬ (O.length : Int) = 0 := by simpa using c1
        omega
      have b1 := idx_nn O.length
      have b2 : -9223372036854775808 ≤ (O.length : Int) := by omega
      have b3 : (O.length : Int) ≤ 9223372036854775807 := by omega
      simp (config := { maxSteps := 500000 }) only [↓vp, vv, implies_true, forall_const, undef, InI, ↓reduceIte, simprocAttr, c27_10, c27_9, TPl, T2, T1, selI, PF, PH, BO, netD, f0, f3, f4, f5, f7, f8, f9, f10, f11, f12, f13, f16, c1, o3, b2, b3]
      rintro ⟨at4, o4⟩ x ⟨hx0, hx1, _⟩
      have hx2 := hx1 (by omega)
      obtain ⟨xn, rfl⟩ : ∃ xn : Nat, x = xn := ⟨x.toNat, by omega⟩
      have hxn : xn < O.length := by omega
      have hgO := nRow_at O xn hxn
      obtain ⟨sg, r, hs, hR, hea, hup, hroom⟩ := hO _ (List.getElem_mem hxn)
      generalize O[xn] = k at hgO hs hR
      have hk : k < n.segs.length := by
        rcases Nat.lt_or_ge k n.segs.length with h | h
        · exact h
        · rw [List.getElem?_eq_none h] at hs; cases hs
      have hg := getD_map Seg.row n.segs k hk
      have hx2' : n.segs[k] = sg := by rw [List.getElem?_eq_getElem hk] at hs; cases hs; rfl
      have hse := hv.se _ (List.getElem_mem hk)
      rw [hx2'] at hg hse
      have hk0 := idx_nn k
      have hk1 : (k : Int) < n.segs.length := by omega
      have w2 : IntKind.i64.wrap (sg.fr + sg.to) = sg.fr + sg.to := wrap_i (by omega)
      have w3 : IntKind.i64.wrap (sg.fr + sg.to - at0) = sg.fr + sg.to - at0 := wrap_i (by omega)
      have y1 : (W.length + 1) * 8 ≤ 140737488355328 := by omega
      have y2 : W.length + 1 ≤ 4611686018427387904 := by omega
      have hW2 := hW.add hs hR hea hup hroom
      simp (config := { maxSteps := 500000 }) only [↓vp, vv, implies_true, forall_const, undef, InI, ↓reduceIte, simprocAttr, f0, f3, f4, f5, f7, f8, f9, f10, f11, f12, f13, f16, netD, hx0, hx2, hxn, hgO, hg, Seg.row, hk, hk0, hk1, Int.toNat_natCast, w2, w3, y1, y2]
      refine ⟨(n.nodes.length - (sg.fr + sg.to - at0)).toNat, _, by omega, (weak_eq [] [i, (i.1 + 1, 3), (i.1 + 1, 4), (i.1 + 1, 5), (i.1 + 1, 25), (i.1 + 1, 29), (i.1 + 1, 1005), (i.1 + 1, 1012)] (PF i tu c [(9, di a), (10, di (sg.fr + sg.to - at0)), (11, di rate), (12, .own (i.1 + 1, 1012) (gw + 1) 0 (W.length + 1)), (13, di (-1))]) (by simp (config := { maxSteps := 500000 }) only [↓vp, vv, implies_true, forall_const, undef, InI, ↓reduceIte, simprocAttr, coverS, PF, PH, BW, netD, iRow, bRow, nRow, f0, f3, f4, f5, f7, f8, f9, f10, f11, f12, f13, w3]) (by simp (config := { maxSteps := 500000 }) only [↓vp, vv, implies_true, forall_const, undef, InI, ↓reduceIte, simprocAttr, refsF, PF, PH, BW, netD, iRow, bRow, nRow, f0, f3, f4, f5, f7, f8, f9, f10, f11, f12, f13, w3]) (by simp (config := { maxSteps := 500000 }) only [↓vp, vv, implies_true, forall_const, undef, InI, ↓reduceIte, simprocAttr, PF, PH, BW, netD, iRow, bRow, nRow, f0, f3, f4, f5, f7, f8, f9, f10, f11, f12, f13, w3]) (by simp) (by simp (config := { maxSteps := 500000 }) only [↓vp, vv, implies_true, forall_const, undef, InI, ↓reduceIte, simprocAttr, PF, PH, BW, netD, iRow, bRow, nRow, f0, f3, f4, f5, f7, f8, f9, f10, f11, f12, f13, w3]; try rfl)), at4, W ++ [k], gw + 1, sg.fr + sg.to - at0, o4, hW2, by omega, by omega, by rw [List.length_append, List.length_singleton]; omega, ?_⟩
      simp only [PF, PH, BW, List.map_append, List.map_cons, List.map_nil, nRow, List.length_append, List.length_singleton]
  · obtain ⟨k, y, q, rfl, _⟩ := he.2
    have hk0 := idx_nn k
    simp (config := { maxSteps := 500000 }) only [↓vp, vv, implies_true, forall_const, undef, InI, ↓reduceIte, simprocAttr, c27_12, TPl, PF, netD, f0, f3, f4, f5, f7, f8, f9, f10, f11, f12, f13, hk0]
    refine hX _ _ at3 W gw k at0 o3 hW (by omega) (.inr he) ⟨?_, ?_, ?_, ?_, ?_, ?_⟩ ⟨?_, ?_, ?_, ?_, ?_⟩ ?_ <;> simp (config := { maxSteps := 500000 }) only [↓vp, vv, implies_true, forall_const, undef, InI, ↓reduceIte, simprocAttr, BW, f0, f3, f4, f5, f7, f8, f9, f10, f11, f12, f13]
end Go.Proofs.Ytiaenojpbiahgaa
