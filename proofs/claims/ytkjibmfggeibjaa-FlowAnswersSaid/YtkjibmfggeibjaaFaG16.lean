/- FlowAnswers: Pl5 Nw FlQ. -/
import Derived.Test.YtkjibmfggeibjaaFaG13
import Derived.Test.YtkjibmfggeibjaaFaG7
import Derived.Test.YtkjibmfggeibjaaFaG12
import Derived.Test.YtkjibmfggeibjaaFaG9

/- Plans out of a source: the way that is laid. -/
/- Plans out of a source: the way that is laid. -/
namespace Go.Proofs.Ytkjibmfggeibjaa
open Go
set_option linter.unusedVariables false
set_option linter.unusedSimpArgs false
set_option maxRecDepth 100000

theorem minC_b {c : Int} : minC c ≤ 1000 := by unfold minC; split <;> omega
theorem pr_b {n : Net} {R : List Int} (h : PR n R) : ∀ r ∈ R, -1000 ≤ r ∧ r ≤ 1000 := fun r hr => by
  obtain ⟨k, hk⟩ := List.getElem?_of_mem hr
  have hl : k < R.length := by
    rcases Nat.lt_or_ge k R.length with h | h
    · exact h
    · rw [List.getElem?_eq_none h] at hk; cases hk
  have hl2 : k < n.segs.length := by have := h.rl; omega
  have hx : (n.segs[k], r) ∈ n.segs.zip R := zip_of (List.getElem?_eq_getElem hl2) hk
  have := h.rb _ hx
  unfold RateIn at this
  have := @minC_b n.segs[k].cap
  dsimp only at *
  omega
theorem bump_len (n : Net) (rate : Int) (R : List Int) (k : Nat) : (bump n rate R k).length = R.length := by unfold bump; rw [List.length_set]
theorem bumps_len (n : Net) (rate : Int) : ∀ (W : List Nat) (R : List Int), (W.foldl (bump n rate) R).length = R.length
  | [], R => rfl
  | k :: W, R => by rw [List.foldl_cons, bumps_len n rate W, bump_len]
theorem nRow_at (W : List Nat) (j : Nat) (h : j < W.length) : (W.map nRow).getD j [] = [di (W[j] : Nat)] := by rw [getD_map nRow W j h]; rfl
theorem iRow_set (R : List Int) (k : Nat) (x : Int) : (R.map iRow).set k [di x] = (R.set k x).map iRow := (List.map_set ..).symm
theorem fold_take {α β : Type} (f : β → α → β) (b : β) (W : List α) (j : Nat) (h : j < W.length) : (W.take (j + 1)).foldl f b = f ((W.take j).foldl f b) W[j] := by
  rw [← List.take_append_getElem h, List.foldl_append]; rfl
set_option maxHeartbeats 16000000 in
theorem pl6 (i : Nm) (L : List (List D)) (n : Net) (hv : NetV n) (g : Nat) (R Q : List Int) (U : List Bool) (tu : Bool) (c rate : Int) (W : List Nat) (hPR : PR n R) (hroom : ∀ k ∈ W, Room n rate R k) (hnd : W.Nodup) (hr : 1 ≤ rate ∧ rate ≤ 300) (hWl : W.length ≤ 1000000)
    (s : St) (Qx : Ex → St → Prop) (at1 : Int) (hw : Weak [i] s ⟨fr (PF i tu c [(11, di rate), (239, .sl (W.map nRow)), (240, di W.length), (241, di 0)]), PH i n g R Q U L at1 Hp.none⟩)
    (hX : ∀ F, PFk i tu c F → Qx (.exit 10) ⟨F, PH i n g (W.foldl (bump n rate) R) Q U L at1 Hp.none⟩) :
    vc TPl (fun t => (i.1 + 1, t)) [i] (.loop c20_17) Qx s := by
  have hsl := hv.sl
  have pre : ∀ j, PR n ((W.take j).foldl (bump n rate) R) := fun j => (bump_all hr.1 (W.take j) hPR (hnd.sublist (List.take_sublist j W)) fun k hk => hroom k (List.mem_of_mem_take hk)).1
  refine rng_loop W.length (fun j => ⟨fr (PF i tu c [(11, di rate), (239, .sl (W.map nRow)), (240, di W.length), (241, di (j : Nat))]), PH i n g ((W.take j).foldl (bump n rate) R) Q U L at1 Hp.none⟩) (fun _ => True) hw trivial (fun j hj _ => ?_) (fun _ => ?_)
  · have hj' : (j : Int) < W.length := by omega
    have hjn := idx_nn j
    have w1 := idx_next (j := j) (by omega)
    have hgW := nRow_at W j hj
    have hf := fold_take (bump n rate) R W j hj
    have hP := pre j
    have hRl : ((W.take j).foldl (bump n rate) R).length = n.segs.length := hP.rl
    have hrm := hroom _ (List.getElem_mem hj)
    generalize W[j] = k at hgW hf hrm
    obtain ⟨x, _, hx, _, _, _⟩ := hrm
    have hk : k < n.segs.length := by
      rcases Nat.lt_or_ge k n.segs.length with h | h
      · exact h
      · rw [List.getElem?_eq_none h] at hx; cases hx
    have hg := getD_map Seg.row n.segs k hk
    have hx2 : n.segs[k] = x := by rw [List.getElem?_eq_getElem hk] at hx; cases hx; rfl
    rw [hx2] at hg
    generalize hRj : (W.take j).foldl (bump n rate) R = Rj at *
    have hkR : k < Rj.length := by omega
    have hg2 := iRow_at Rj k hkR
    have hb := pr_b hP _ (List.getElem_mem hkR)
    have hgd : Rj.getD k 0 = Rj[k] := by rw [List.getD_eq_getElem?_getD, List.getElem?_eq_getElem hkR]; rfl
    have hk0 := idx_nn k
    have hk1 : (k : Int) < n.segs.length := by omega
    have hk2 : (k : Int) < Rj.length := by omega
    have hsd : segD n rate k = (x.fr, x.to, if x.fr < x.to then rate else -rate) := by unfold segD; rw [hx]
    have hbp : bump n rate Rj k = Rj.set k (Rj[k] + if x.fr < x.to then rate else -rate) := by unfold bump; rw [hgd, hsd]
    rw [hbp] at hf
    generalize Rj[k] = r at hg2 hb hf
    have w2 : IntKind.i64.wrap (r + rate) = r + rate := wrap_i (by omega)
    have w3 : IntKind.i64.wrap (r - rate) = r - rate := wrap_i (by omega)
    have hls : ∀ y, (Rj.set k y).length = Rj.length := fun y => List.length_set
    by_cases c1 : x.fr < x.to
    · rw [if_pos c1] at hf
      simp (config := { maxSteps := 500000 }) only [↓vp, vv, implies_true, forall_const, undef, InI, ↓reduceIte, simprocAttr, c20_17, c20_16, c20_15, TPl, PF, PH, netD, hj', hjn, hk, hk0, hk1, hk2, hkR, Int.toNat_natCast, hgW, hg, hg2, Seg.row, c1, w1, w2, iRow_set]
      exact rng_next hj (weak_eq [] [i, (i.1 + 1, 3), (i.1 + 1, 4), (i.1 + 1, 5), (i.1 + 1, 25), (i.1 + 1, 29), (i.1 + 1, 1005)] (PF i tu c [(11, di rate), (239, .sl (W.map nRow)), (240, di W.length), (241, di (j + 1 : Nat))]) (by simp (config := { maxSteps := 500000 }) only [↓vp, vv, implies_true, forall_const, undef, InI, ↓reduceIte, simprocAttr, coverS, PF, PH, netD, iRow, bRow, w1, hf, hls]) (by simp (config := { maxSteps := 500000 }) only [↓vp, vv, implies_true, forall_const, undef, InI, ↓reduceIte, simprocAttr, refsF, PF, PH, netD, iRow, bRow, w1, hf, hls]) (by simp (config := { maxSteps := 500000 }) only [↓vp, vv, implies_true, forall_const, undef, InI, ↓reduceIte, simprocAttr, PF, PH, netD, iRow, bRow, w1, hf, hls]) (by simp) (by simp (config := { maxSteps := 500000 }) only [↓vp, vv, implies_true, forall_const, undef, InI, ↓reduceIte, simprocAttr, PF, PH, netD, iRow, bRow, w1, hf, hls]; try rfl)) trivial
    · rw [if_neg c1] at hf
      have hf2 : r + -rate = r - rate := by omega
      rw [hf2] at hf
      simp (config := { maxSteps := 500000 }) only [↓vp, vv, implies_true, forall_const, undef, InI, ↓reduceIte, simprocAttr, c20_17, c20_16, c20_15, TPl, PF, PH, netD, hj', hjn, hk, hk0, hk1, hk2, hkR, Int.toNat_natCast, hgW, hg, hg2, Seg.row, c1, w1, w3, iRow_set]
      exact rng_next hj (weak_eq [] [i, (i.1 + 1, 3), (i.1 + 1, 4), (i.1 + 1, 5), (i.1 + 1, 25), (i.1 + 1, 29), (i.1 + 1, 1005)] (PF i tu c [(11, di rate), (239, .sl (W.map nRow)), (240, di W.length), (241, di (j + 1 : Nat))]) (by simp (config := { maxSteps := 500000 }) only [↓vp, vv, implies_true, forall_const, undef, InI, ↓reduceIte, simprocAttr, coverS, PF, PH, netD, iRow, bRow, w1, hf, hls]) (by simp (config := { maxSteps := 500000 }) only [↓vp, vv, implies_true, forall_const, undef, InI, ↓reduceIte, simprocAttr, refsF, PF, PH, netD, iRow, bRow, w1, hf, hls]) (by simp (config := { maxSteps := 500000 }) only [↓vp, vv, implies_true, forall_const, undef, InI, ↓reduceIte, simprocAttr, PF, PH, netD, iRow, bRow, w1, hf, hls]) (by simp) (by simp (config := { maxSteps := 500000 }) only [↓vp, vv, implies_true, forall_const, undef, InI, ↓reduceIte, simprocAttr, PF, PH, netD, iRow, bRow, w1, hf, hls]; try rfl)) trivial
  · rw [List.take_length]
    simp (config := { maxSteps := 500000 }) only [↓vp, vv, implies_true, forall_const, undef, InI, ↓reduceIte, simprocAttr, c20_17, PF, Int.lt_irrefl]
    refine hX _ ⟨?_, ?_, ?_, ?_, ?_, ?_⟩ <;> simp (config := { maxSteps := 500000 }) only [↓vp, vv, implies_true, forall_const, undef, InI, ↓reduceIte, simprocAttr, ]
end Go.Proofs.Ytkjibmfggeibjaa
/- Plans out of a source: a way. -/
namespace Go.Proofs.Ytkjibmfggeibjaa
open Go
set_option linter.unusedVariables false
set_option linter.unusedSimpArgs false
set_option maxRecDepth 100000

set_option maxHeartbeats 16000000 in
theorem pl3 (i : Nm) (L : List (List D)) (n : Net) (hv : NetV n) (g : Nat) (R Q : List Int) (U : List Bool) (tu : Bool) (c a a0 rate : Int) (hPR : PR n R) (hQl : Q.length = n.ports.length) (hQb : ∀ r ∈ Q, -1000 ≤ r ∧ r ≤ 1000) (hr : 1 ≤ rate ∧ rate ≤ 300) (h0 : 0 ≤ a0 ∧ a0 < n.nodes.length)
    (s : St) (Qx : Ex → St → Prop) (at1 : Int) (o1 : SrcOk L at1) (hw : Weak [i] s ⟨fr (PF i tu c [(9, di a), (10, di a0), (11, di rate), (12, .own (i.1 + 1, 1012) 0 0 0), (13, di (-1))]), PH i n g R Q U L at1 (BW i 0 [])⟩)
    (hX : ∀ F B at2 W gw e at0, SrcOk L at2 → Way n R rate a0 at0 W → W.length ≤ 24 → (e = -1 ∨ EndOk n Q a rate at0 e) → PFk i tu c F → PFw a at0 rate i gw W e F → B (i.1 + 1, 1012) = some ⟨gw, 1, W.map nRow⟩ → Qx (.exit 4) ⟨F, PH i n g R Q U L at2 B⟩) :
    vc TPl (fun t => (i.1 + 1, t)) [i] (.loop c20_14) Qx s := by
  have hnl := hv.nl
  have hql := hv.ql
  rw [vc_loop]
  refine ⟨fun m s => ∃ at' W gw at0, SrcOk L at' ∧ Way n R rate a0 at0 W ∧ (0 ≤ at0 ∧ at0 < n.nodes.length) ∧ at0 + m = n.nodes.length ∧ W.length + m ≤ 24 ∧ s = ⟨fr (PF i tu c [(9, di a), (10, di at0), (11, di rate), (12, .own (i.1 + 1, 1012) gw 0 W.length), (13, di (-1))]), PH i n g R Q U L at' (BW i gw W)⟩, ⟨(n.nodes.length - a0).toNat, _, hw, at1, [], 0, a0, o1, Way.nil n R rate a0, h0, by omega, by simp; omega, rfl⟩, ?_⟩
  rintro m s ⟨at2, W, gw, at0, o2, hW, hat, hm, hWl, rfl⟩
  simp (config := { maxSteps := 500000 }) only [↓vp, vv, implies_true, forall_const, undef, InI, ↓reduceIte, simprocAttr, c20_14, c20_13, TPl, PF, PH, BW, netD]
  refine pl4 i L n g R Q U tu c a at0 rate gw W (by omega) hQl hQb hr _ _ at2 o2 (weak_eq [] [i, (i.1 + 1, 3), (i.1 + 1, 4), (i.1 + 1, 5), (i.1 + 1, 25), (i.1 + 1, 29), (i.1 + 1, 1005), (i.1 + 1, 1012)] (PF i tu c [(9, di a), (10, di at0), (11, di rate), (12, .own (i.1 + 1, 1012) gw 0 W.length), (13, di (-1)), (90, .sl (n.ports.map Port.row)), (91, di n.ports.length), (92, di 0)]) (by simp (config := { maxSteps := 500000 }) only [↓vp, vv, implies_true, forall_const, undef, InI, ↓reduceIte, simprocAttr, coverS, PF, PH, BW, netD, iRow, bRow, nRow]) (by simp (config := { maxSteps := 500000 }) only [↓vp, vv, implies_true, forall_const, undef, InI, ↓reduceIte, simprocAttr, refsF, PF, PH, BW, netD, iRow, bRow, nRow]) (by simp (config := { maxSteps := 500000 }) only [↓vp, vv, implies_true, forall_const, undef, InI, ↓reduceIte, simprocAttr, PF, PH, BW, netD, iRow, bRow, nRow]) (by simp) (by simp (config := { maxSteps := 500000 }) only [↓vp, vv, implies_true, forall_const, undef, InI, ↓reduceIte, simprocAttr, PF, PH, BW, netD, iRow, bRow, nRow]; try rfl)) ?_
  rintro F at3 e o3 he hF hFw
  obtain ⟨f0, f3, f4, f5, f7, f8⟩ := hF
  obtain ⟨f9, f10, f11, f12, f13⟩ := hFw
  rcases he with he | he
  · subst he
    simp (config := { maxSteps := 500000 }) only [↓vp, vv, implies_true, forall_const, undef, InI, ↓reduceIte, simprocAttr, c20_12, c20_11, TPl, PF, PH, BW, netD, f0, f3, f4, f5, f7, f8, f9, f10, f11, f12, f13]
    refine pl5 i L n hv g R Q U tu c a at0 rate gw W hPR.rl (pr_b hPR) hr (by omega) _ _ at3 ((weak_own 16 (i.1 + 1, 1016) 1 (by simp (config := { maxSteps := 500000 }) only [↓vp, vv, implies_true, forall_const, undef, InI, ↓reduceIte, simprocAttr, ]) (by simp (config := { maxSteps := 500000 }) only [↓vp, vv, implies_true, forall_const, undef, InI, ↓reduceIte, simprocAttr, PH, BW])).trans (weak_eq [] [i, (i.1 + 1, 3), (i.1 + 1, 4), (i.1 + 1, 5), (i.1 + 1, 25), (i.1 + 1, 29), (i.1 + 1, 1005), (i.1 + 1, 1012), (i.1 + 1, 1016)] (PF i tu c [(9, di a), (10, di at0), (11, di rate), (12, .own (i.1 + 1, 1012) gw 0 W.length), (13, di (-1)), (16, .own (i.1 + 1, 1016) 0 0 0), (139, .sl (n.segs.map Seg.row)), (140, di n.segs.length), (141, di 0)]) (by simp (config := { maxSteps := 500000 }) only [↓vp, vv, implies_true, forall_const, undef, InI, ↓reduceIte, simprocAttr, coverS, PF, PH, BW, BO, netD, iRow, bRow, nRow, f0, f3, f4, f5, f7, f8, f9, f10, f11, f12, f13]) (by simp (config := { maxSteps := 500000 }) only [↓vp, vv, implies_true, forall_const, undef, InI, ↓reduceIte, simprocAttr, refsF, PF, PH, BW, BO, netD, iRow, bRow, nRow, f0, f3, f4, f5, f7, f8, f9, f10, f11, f12, f13]) (by simp (config := { maxSteps := 500000 }) only [↓vp, vv, implies_true, forall_const, undef, InI, ↓reduceIte, simprocAttr, PF, PH, BW, BO, netD, iRow, bRow, nRow, f0, f3, f4, f5, f7, f8, f9, f10, f11, f12, f13]) (by simp) (by simp (config := { maxSteps := 500000 }) only [↓vp, vv, implies_true, forall_const, undef, InI, ↓reduceIte, simprocAttr, PF, PH, BW, BO, netD, iRow, bRow, nRow, f0, f3, f4, f5, f7, f8, f9, f10, f11, f12, f13]; try rfl))) ?_
    rintro F2 O go hO hOl hF hFw f16
    obtain ⟨f0, f3, f4, f5, f7, f8⟩ := hF
    obtain ⟨f9, f10, f11, f12, f13⟩ := hFw
    cases c1 : ((O.length : Int) == 0) with
    | true =>
      simp (config := { maxSteps := 500000 }) only [↓vp, vv, implies_true, forall_const, undef, InI, ↓reduceIte, simprocAttr, c20_10, TPl, PF, netD, f0, f3, f4, f5, f7, f8, f9, f10, f11, f12, f13, f16, c1]
      refine hX _ _ at3 W gw (-1) at0 o3 hW (by omega) (.inl rfl) ⟨?_, ?_, ?_, ?_, ?_, ?_⟩ ⟨?_, ?_, ?_, ?_, ?_⟩ ?_ <;> simp (config := { maxSteps := 500000 }) only [↓vp, vv, implies_true, forall_const, undef, InI, ↓reduceIte, simprocAttr, BO, f0, f3, f4, f5, f7, f8, f9, f10, f11, f12, f13]
    | false =>
      have hOp : 1 ≤ O.length := by
        have : ¬ (O.length : Int) = 0 := by simpa using c1
        omega
      have b1 := idx_nn O.length
      have b2 : -9223372036854775808 ≤ (O.length : Int) := by omega
      have b3 : (O.length : Int) ≤ 9223372036854775807 := by omega
      simp (config := { maxSteps := 500000 }) only [↓vp, vv, implies_true, forall_const, undef, InI, ↓reduceIte, simprocAttr, c20_10, c20_9, TPl, T2, T1, selI, PF, PH, BO, netD, f0, f3, f4, f5, f7, f8, f9, f10, f11, f12, f13, f16, c1, o3, b2, b3]
      rintro ⟨at4, o4⟩ x ⟨hx0, hx1, _⟩
      have hx2 := hx1 (by omega)
      obtain ⟨xn, rfl⟩ : ∃ xn : Nat, x = xn := ⟨x.toNat, by omega⟩
      have hxn : xn < O.length := by omega
      have hgO := nRow_at O xn hxn
      obtain ⟨sg, r, hs, hR, hea, hup, hroom⟩ := hO _ (List.getElem_mem hxn)
      generalize O[xn] = k at hgO hs hR
      have hk : k < n.segs.length := by
        rcases Nat.lt_or_ge k n.segs.length with h | h
        · exact h
        · rw [List.getElem?_eq_none h] at hs; cases hs
      have hg := getD_map Seg.row n.segs k hk
      have hx2' : n.segs[k] = sg := by rw [List.getElem?_eq_getElem hk] at hs; cases hs; rfl
      have hse := hv.se _ (List.getElem_mem hk)
      rw [hx2'] at hg hse
      have hk0 := idx_nn k
      have hk1 : (k : Int) < n.segs.length := by omega
      have w2 : IntKind.i64.wrap (sg.fr + sg.to) = sg.fr + sg.to := wrap_i (by omega)
      have w3 : IntKind.i64.wrap (sg.fr + sg.to - at0) = sg.fr + sg.to - at0 := wrap_i (by omega)
      have y1 : (W.length + 1) * 8 ≤ 140737488355328 := by omega
      have y2 : W.length + 1 ≤ 4611686018427387904 := by omega
      have hW2 := hW.add hs hR hea hup hroom
      simp (config := { maxSteps := 500000 }) only [↓vp, vv, implies_true, forall_const, undef, InI, ↓reduceIte, simprocAttr, f0, f3, f4, f5, f7, f8, f9, f10, f11, f12, f13, f16, netD, hx0, hx2, hxn, hgO, hg, Seg.row, hk, hk0, hk1, Int.toNat_natCast, w2, w3, y1, y2]
      refine ⟨(n.nodes.length - (sg.fr + sg.to - at0)).toNat, _, by omega, (weak_eq [] [i, (i.1 + 1, 3), (i.1 + 1, 4), (i.1 + 1, 5), (i.1 + 1, 25), (i.1 + 1, 29), (i.1 + 1, 1005), (i.1 + 1, 1012)] (PF i tu c [(9, di a), (10, di (sg.fr + sg.to - at0)), (11, di rate), (12, .own (i.1 + 1, 1012) (gw + 1) 0 (W.length + 1)), (13, di (-1))]) (by simp (config := { maxSteps := 500000 }) only [↓vp, vv, implies_true, forall_const, undef, InI, ↓reduceIte, simprocAttr, coverS, PF, PH, BW, netD, iRow, bRow, nRow, f0, f3, f4, f5, f7, f8, f9, f10, f11, f12, f13, w3]) (by simp (config := { maxSteps := 500000 }) only [↓vp, vv, implies_true, forall_const, undef, InI, ↓reduceIte, simprocAttr, refsF, PF, PH, BW, netD, iRow, bRow, nRow, f0, f3, f4, f5, f7, f8, f9, f10, f11, f12, f13, w3]) (by simp (config := { maxSteps := 500000 }) only [↓vp, vv, implies_true, forall_const, undef, InI, ↓reduceIte, simprocAttr, PF, PH, BW, netD, iRow, bRow, nRow, f0, f3, f4, f5, f7, f8, f9, f10, f11, f12, f13, w3]) (by simp) (by simp (config := { maxSteps := 500000 }) only [↓vp, vv, implies_true, forall_const, undef, InI, ↓reduceIte, simprocAttr, PF, PH, BW, netD, iRow, bRow, nRow, f0, f3, f4, f5, f7, f8, f9, f10, f11, f12, f13, w3]; try rfl)), at4, W ++ [k], gw + 1, sg.fr + sg.to - at0, o4, hW2, by omega, by omega, by rw [List.length_append, List.length_singleton]; omega, ?_⟩
      simp only [PF, PH, BW, List.map_append, List.map_cons, List.map_nil, nRow, List.length_append, List.length_singleton]
  · obtain ⟨k, y, q, rfl, _⟩ := he.2
    have hk0 := idx_nn k
    simp (config := { maxSteps := 500000 }) only [↓vp, vv, implies_true, forall_const, undef, InI, ↓reduceIte, simprocAttr, c20_12, TPl, PF, netD, f0, f3, f4, f5, f7, f8, f9, f10, f11, f12, f13, hk0]
    refine hX _ _ at3 W gw k at0 o3 hW (by omega) (.inr he) ⟨?_, ?_, ?_, ?_, ?_, ?_⟩ ⟨?_, ?_, ?_, ?_, ?_⟩ ?_ <;> simp (config := { maxSteps := 500000 }) only [↓vp, vv, implies_true, forall_const, undef, InI, ↓reduceIte, simprocAttr, BW, f0, f3, f4, f5, f7, f8, f9, f10, f11, f12, f13]
end Go.Proofs.Ytkjibmfggeibjaa
/- Plans out of a source: streams. -/
namespace Go.Proofs.Ytkjibmfggeibjaa
open Go
set_option linter.unusedVariables false
set_option linter.unusedSimpArgs false
set_option maxRecDepth 100000

set_option maxHeartbeats 16000000 in
theorem pl2 (i : Nm) (L : List (List D)) (n : Net) (hv : NetV n) (hp1 : 1 ≤ n.ports.length) (g : Nat) (R Q : List Int) (U : List Bool) (tu : Bool) (c : Nat) (hPG : PG n R Q) (hc : c ≤ 1000)
    (s : St) (Qx : Ex → St → Prop) (at1 : Int) (o1 : SrcOk L at1) (hw : Weak [i] s ⟨fr (PF i tu c []), PH i n g R Q U L at1 Hp.none⟩)
    (hX : ∀ F at2 R Q, SrcOk L at2 → PG n R Q → F 0 = .ptr i 0 0 0 → F 4 = .ptr (i.1 + 1, 4) 0 0 0 → F 5 = .ptr (i.1 + 1, 5) 0 0 0 → F 7 = db tu → Qx (.exit 2) ⟨F, PH i n g R Q U L at2 Hp.none⟩) :
    vc TPl (fun t => (i.1 + 1, t)) [i] (.loop c20_23) Qx s := by
  have hnl := hv.nl
  have hql := hv.ql
  rw [vc_loop]
  refine ⟨fun m s => ∃ at' R Q, SrcOk L at' ∧ PG n R Q ∧ m ≤ c ∧ s = ⟨fr (PF i tu m []), PH i n g R Q U L at' Hp.none⟩, ⟨c, _, hw, at1, R, Q, o1, hPG, Nat.le_refl _, rfl⟩, ?_⟩
  rintro m s ⟨at2, R, Q, o2, hG, hmc, rfl⟩
  have nx : 0 < m → ∀ (at3 : Int) (R Q : List Int) (F : Fr) (H : Hp), SrcOk L at3 → PG n R Q → F 0 = .ptr i 0 0 0 → F 3 = .ptr (i.1 + 1, 3) 0 0 0 → F 4 = .ptr (i.1 + 1, 4) 0 0 0 → F 5 = .ptr (i.1 + 1, 5) 0 0 0 → F 7 = db tu → F 8 = di (m - 1 : Nat) →
        H i = some (sE L at3) → H (i.1 + 1, 3) = some ⟨0, 6, [netD n]⟩ → H (i.1 + 1, 4) = some ⟨0, 3, [[.mt, .mt, .mt]]⟩ → H (i.1 + 1, 5) = some ⟨0, 3, [[.own (i.1 + 1, 25) 0 0 R.length, .own (i.1 + 1, 29) 0 0 Q.length, .own (i.1 + 1, 1005) g 0 U.length]]⟩ → H (i.1 + 1, 25) = some ⟨0, 1, R.map iRow⟩ → H (i.1 + 1, 29) = some ⟨0, 1, Q.map iRow⟩ → H (i.1 + 1, 1005) = some ⟨g, 1, U.map bRow⟩ →
        ∃ k' s', k' < m ∧ Weak [i] ⟨F, H⟩ s' ∧ ∃ at' R Q, SrcOk L at' ∧ PG n R Q ∧ k' ≤ c ∧ s' = ⟨fr (PF i tu k' []), PH i n g R Q U L at' Hp.none⟩ := by
    rintro hm at3 R Q F H o3 hG f0 f3 f4 f5 f7 f8 h0 h3 h4 h5 h25 h29 h105
    exact ⟨m - 1, _, by omega, (weak_eq [] [i, (i.1 + 1, 3), (i.1 + 1, 4), (i.1 + 1, 5), (i.1 + 1, 25), (i.1 + 1, 29), (i.1 + 1, 1005)] (PF i tu (m - 1 : Nat) []) (by simp (config := { maxSteps := 500000 }) only [↓vp, vv, implies_true, forall_const, undef, InI, ↓reduceIte, simprocAttr, coverS, PF, PH, netD, iRow, bRow, f0, f3, f4, f5, f7, f8, h0, h3, h4, h5, h25, h29, h105]) (by simp (config := { maxSteps := 500000 }) only [↓vp, vv, implies_true, forall_const, undef, InI, ↓reduceIte, simprocAttr, refsF, PF, PH, netD, iRow, bRow, f0, f3, f4, f5, f7, f8, h0, h3, h4, h5, h25, h29, h105]) (by simp (config := { maxSteps := 500000 }) only [↓vp, vv, implies_true, forall_const, undef, InI, ↓reduceIte, simprocAttr, PF, PH, netD, iRow, bRow, f0, f3, f4, f5, f7, f8, h0, h3, h4, h5, h25, h29, h105]) (by simp) (by simp (config := { maxSteps := 500000 }) only [↓vp, vv, implies_true, forall_const, undef, InI, ↓reduceIte, simprocAttr, PF, PH, netD, iRow, bRow, f0, f3, f4, f5, f7, f8, h0, h3, h4, h5, h25, h29, h105]; try rfl)), at3, R, Q, o3, hG, by omega, rfl⟩
  by_cases hm : 0 < m
  · have hm' : (0 : Int) < m := by omega
    have wm : IntKind.i64.wrap ((m : Int) - 1) = ((m - 1 : Nat) : Int) := by rw [wrap_i (by omega)]; omega
    have b2 : -9223372036854775808 ≤ (n.ports.length : Int) := by omega
    have b3 : (n.ports.length : Int) ≤ 9223372036854775807 := by omega
    simp (config := { maxSteps := 500000 }) only [↓vp, vv, implies_true, forall_const, undef, InI, ↓reduceIte, simprocAttr, c20_23, c20_22, c20_21, TPl, T2, T1, selI, selPick, selRange, PF, PH, netD, hm', wm, o2, b2, b3]
    rintro ⟨at3, o3⟩ av ⟨ha0, ha1, _⟩
    have ha2 := ha1 (by omega)
    obtain ⟨a, rfl⟩ : ∃ a : Nat, av = a := ⟨av.toNat, by omega⟩
    have haq : a < n.ports.length := by omega
    have haQ : a < Q.length := by have := hG.ql; omega
    have haQ' : (a : Int) < Q.length := by omega
    have hg := getD_map Port.row n.ports a haq
    have hg2 := iRow_at Q a haQ
    have hx : n.ports[a]? = some n.ports[a] := List.getElem?_eq_getElem haq
    have hy : Q[a]? = some Q[a] := List.getElem?_eq_getElem haQ
    have hb := hG.qb _ (List.getElem_mem haQ)
    have hpe := hv.pe _ (List.getElem_mem haq)
    generalize n.ports[a] = x at hg hx hpe
    generalize Q[a] = qa at hg2 hy hb
    simp (config := { maxSteps := 500000 }) only [↓vp, vv, implies_true, forall_const, undef, InI, ↓reduceIte, simprocAttr, ha0, ha2, haq, haQ, haQ', hg, hg2, Port.row, Int.toNat_natCast, netD, o3]
    rintro ⟨at4, o4⟩ pk hpk
    simp [IsMem] at hpk
    refine ⟨⟨⟨by omega, by omega⟩, by omega, by omega⟩, ?_⟩
    rintro ⟨at5, o5⟩ rate hrt
    unfold RPost at hrt
    have hr : 1 ≤ rate ∧ rate ≤ 300 := by omega
    have w4 : IntKind.i64.wrap (qa + rate) = qa + rate := wrap_i (by omega)
    cases c1 : decide (qa < 0) with
    | true =>
      have c1' : qa < 0 := by simpa using c1
      simp (config := { maxSteps := 500000 }) only [↓vp, vv, implies_true, forall_const, undef, InI, ↓reduceIte, simprocAttr, c1, c1', netD, wm]
      refine nx hm at5 R Q _ _ o5 hG ?_ ?_ ?_ ?_ ?_ ?_ ?_ ?_ ?_ ?_ ?_ ?_ ?_ <;> simp (config := { maxSteps := 500000 }) only [↓vp, vv, implies_true, forall_const, undef, InI, ↓reduceIte, simprocAttr, netD, wm]
    | false =>
    have c1' : ¬ qa < 0 := by simpa using c1
    cases c2 : decide (1000 < qa + rate) with
    | true =>
      simp (config := { maxSteps := 500000 }) only [↓vp, vv, implies_true, forall_const, undef, InI, ↓reduceIte, simprocAttr, c1, c1', w4, c2, netD, wm]
      refine nx hm at5 R Q _ _ o5 hG ?_ ?_ ?_ ?_ ?_ ?_ ?_ ?_ ?_ ?_ ?_ ?_ ?_ <;> simp (config := { maxSteps := 500000 }) only [↓vp, vv, implies_true, forall_const, undef, InI, ↓reduceIte, simprocAttr, netD, wm]
    | false =>
    have c2' : ¬ 1000 < qa + rate := by simpa using c2
    simp (config := { maxSteps := 500000 }) only [↓vp, vv, implies_true, forall_const, undef, InI, ↓reduceIte, simprocAttr, c1, c1', w4, c2, netD, wm, c20_20]
    refine pl3 i L n hv g R Q U tu m a x.node rate hG.pr hG.ql hG.qb hr hpe _ _ at5 o5 ((weak_own 12 (i.1 + 1, 1012) 1 (by simp (config := { maxSteps := 500000 }) only [↓vp, vv, implies_true, forall_const, undef, InI, ↓reduceIte, simprocAttr, ]) (by simp (config := { maxSteps := 500000 }) only [↓vp, vv, implies_true, forall_const, undef, InI, ↓reduceIte, simprocAttr, ])).trans (weak_eq [] [i, (i.1 + 1, 3), (i.1 + 1, 4), (i.1 + 1, 5), (i.1 + 1, 25), (i.1 + 1, 29), (i.1 + 1, 1005), (i.1 + 1, 1012)] (PF i tu m [(9, di a), (10, di x.node), (11, di rate), (12, .own (i.1 + 1, 1012) 0 0 0), (13, di (-1))]) (by simp (config := { maxSteps := 500000 }) only [↓vp, vv, implies_true, forall_const, undef, InI, ↓reduceIte, simprocAttr, coverS, PF, PH, BW, netD, iRow, bRow]) (by simp (config := { maxSteps := 500000 }) only [↓vp, vv, implies_true, forall_const, undef, InI, ↓reduceIte, simprocAttr, refsF, PF, PH, BW, netD, iRow, bRow]) (by simp (config := { maxSteps := 500000 }) only [↓vp, vv, implies_true, forall_const, undef, InI, ↓reduceIte, simprocAttr, PF, PH, BW, netD, iRow, bRow]) (by simp) (by simp (config := { maxSteps := 500000 }) only [↓vp, vv, implies_true, forall_const, undef, InI, ↓reduceIte, simprocAttr, PF, PH, BW, netD, iRow, bRow]; try rfl))) ?_
    rintro F B at6 W gw e at' o6 hW hWl he hF hFw hB
    obtain ⟨f0, f3, f4, f5, f7, f8⟩ := hF
    obtain ⟨f9, f10, f11, f12, f13⟩ := hFw
    rcases he with rfl | he
    · simp (config := { maxSteps := 500000 }) only [↓vp, vv, implies_true, forall_const, undef, InI, ↓reduceIte, simprocAttr, c20_19, TPl, PF, PH, netD, f0, f3, f4, f5, f7, f8, f9, f10, f11, f12, f13, wm]
      refine nx hm at6 R Q _ _ o6 hG ?_ ?_ ?_ ?_ ?_ ?_ ?_ ?_ ?_ ?_ ?_ ?_ ?_ <;> simp (config := { maxSteps := 500000 }) only [↓vp, vv, implies_true, forall_const, undef, InI, ↓reduceIte, simprocAttr, netD, wm, f0, f3, f4, f5, f7, f8]
    · obtain ⟨hne, k, y, qe, rfl, hk1, hk2, hk3, hk4, hk5⟩ := he
      have hkQ : k < Q.length := by
        rcases Nat.lt_or_ge k Q.length with h | h
        · exact h
        · rw [List.getElem?_eq_none h] at hk2; cases hk2
      have hkQ' : (k : Int) < Q.length := by omega
      have hk0 := idx_nn k
      have hk6 : ¬ (k : Int) < 0 := by omega
      have ha0' := idx_nn a
      have hQk : Q[k] = qe := by rw [List.getElem?_eq_getElem hkQ] at hk2; cases hk2; rfl
      have hg3 := iRow_at Q k hkQ
      rw [hQk] at hg3
      have hqe := hG.qb qe (List.mem_of_getElem? hk2)
      have w5 : IntKind.i64.wrap (qe - rate) = qe - rate := wrap_i (by omega)
      have hnek : a ≠ k := fun h => hne (by rw [h])
      have hG2 := pg_step hG hW hr.1 hx hk1 hnek rfl hk3 hy hk2 (by omega) (by omega) hk4 hk5
      have hls : ((Q.set a (qa + rate)).set k (qe - rate)).length = Q.length := by rw [List.length_set, List.length_set]
      have hls2 : (Q.set a (qa + rate)).length = Q.length := List.length_set
      have hg4 : ((Q.set a (qa + rate)).map iRow).getD k [] = [di qe] := by
        rw [iRow_at _ k (by rw [List.length_set]; exact hkQ), List.getElem_set_ne hnek, hQk]
      simp (config := { maxSteps := 500000 }) only [↓vp, vv, implies_true, forall_const, undef, InI, ↓reduceIte, simprocAttr, c20_19, c20_18, TPl, PF, PH, netD, f0, f3, f4, f5, f7, f8, f9, f10, f11, f12, f13, hk0, hk6, ha0', haQ, haQ', hkQ, hkQ', hg2, hg3, hg4, Int.toNat_natCast, w4, w5, iRow_set, hls, hls2, List.length_set]
      refine pl6 i L n hv g R ((Q.set a (qa + rate)).set k (qe - rate)) U tu m rate W hG.pr hW.room hW.nd hr (by omega) _ _ at6 (weak_eq [(i.1 + 1, 1012)] [i, (i.1 + 1, 3), (i.1 + 1, 4), (i.1 + 1, 5), (i.1 + 1, 25), (i.1 + 1, 29), (i.1 + 1, 1005)] (PF i tu m [(11, di rate), (239, .sl (W.map nRow)), (240, di W.length), (241, di 0)]) (by simp (config := { maxSteps := 500000 }) only [↓vp, vv, implies_true, forall_const, undef, InI, ↓reduceIte, simprocAttr, coverS, PF, PH, netD, iRow, bRow, nRow, f0, f3, f4, f5, f7, f8, f11, f12, hB, hls, hls2, w4, w5, List.length_set]) (by simp (config := { maxSteps := 500000 }) only [↓vp, vv, implies_true, forall_const, undef, InI, ↓reduceIte, simprocAttr, refsF, PF, PH, netD, iRow, bRow, nRow, f0, f3, f4, f5, f7, f8, f11, f12, hB, hls, hls2, w4, w5, List.length_set]) (by simp (config := { maxSteps := 500000 }) only [↓vp, vv, implies_true, forall_const, undef, InI, ↓reduceIte, simprocAttr, PF, PH, netD, iRow, bRow, nRow, f0, f3, f4, f5, f7, f8, f11, f12, hB, hls, hls2, w4, w5, List.length_set]) (by simp) (by simp (config := { maxSteps := 500000 }) only [↓vp, vv, implies_true, forall_const, undef, InI, ↓reduceIte, simprocAttr, PF, PH, netD, iRow, bRow, nRow, f0, f3, f4, f5, f7, f8, f11, f12, hB, hls, hls2, w4, w5, List.length_set]; try rfl)) ?_
      rintro F2 ⟨f0, f3, f4, f5, f7, f8⟩
      have hbl := bumps_len n rate W R
      simp (config := { maxSteps := 500000 }) only [↓vp, vv, implies_true, forall_const, undef, InI, ↓reduceIte, simprocAttr, TPl, PF, PH, netD, f0, f3, f4, f5, f7, f8, wm]
      refine nx hm at6 _ _ _ _ o6 hG2 ?_ ?_ ?_ ?_ ?_ ?_ ?_ ?_ ?_ ?_ ?_ ?_ ?_ <;> simp (config := { maxSteps := 500000 }) only [↓vp, vv, implies_true, forall_const, undef, InI, ↓reduceIte, simprocAttr, netD, wm, f0, f3, f4, f5, f7, f8]
  · obtain rfl : m = 0 := by omega
    simp (config := { maxSteps := 500000 }) only [↓vp, vv, implies_true, forall_const, undef, InI, ↓reduceIte, simprocAttr, c20_23, PF]
    refine hX _ at2 R Q o2 hG ?_ ?_ ?_ ?_ <;> simp (config := { maxSteps := 500000 }) only [↓vp, vv, implies_true, forall_const, undef, InI, ↓reduceIte, simprocAttr, ]
end Go.Proofs.Ytkjibmfggeibjaa
/- Plans out of a source. -/
namespace Go.Proofs.Ytkjibmfggeibjaa
open Go
set_option linter.unusedVariables false
set_option linter.unusedSimpArgs false
set_option maxRecDepth 100000

theorem pg_zero {n : Net} (hv : NetV n) : PG n (List.replicate n.segs.length 0) (List.replicate n.ports.length 0) := by
  have z : ∀ x, x ∈ n.segs.zip (List.replicate n.segs.length (0 : Int)) → x.2 = 0 := fun x hx => (List.mem_replicate.1 (List.of_mem_zip hx).2).2
  refine ⟨⟨List.length_replicate, fun x hx => ?_, fun x hx h => absurd (z x hx) h⟩, List.length_replicate, fun r hr => ?_, fun v => ?_⟩
  · have := (hv.se x.1 (List.of_mem_zip hx).1).2.2.2.1
    unfold RateIn minC
    rw [z x hx]
    split <;> omega
  · rw [(List.mem_replicate.1 hr).2]; omega
  · refine sumI_zero fun t ht => ?_
    have : t.2.2 = 0 := by
      unfold flowsOf at ht
      rcases List.mem_append.1 ht with ht | ht
      · rw [← List.map_uncurry_zip_eq_zipWith] at ht
        obtain ⟨x, hx, rfl⟩ := List.mem_map.1 ht
        exact (List.mem_replicate.1 (List.of_mem_zip hx).2).2
      · rw [← List.map_uncurry_zip_eq_zipWith] at ht
        obtain ⟨x, hx, rfl⟩ := List.mem_map.1 ht
        exact (List.mem_replicate.1 (List.of_mem_zip hx).2).2
    unfold netOf
    rw [this]
    split <;> split <;> rfl
theorem rep_i (k : Nat) : List.replicate k [di 0] = (List.replicate k 0).map iRow := by rw [List.map_replicate]; rfl
set_option maxHeartbeats 16000000 in
theorem Plan_c (n : Net) (hv : NetV n) (hp1 : 1 ≤ n.ports.length) : SrcC Try.prog 20 [n.enc] (PlanOk n) Pln.enc := by
  intro i L at' nn ho
  obtain ⟨code, h1, h2⟩ := c20_ok
  refine callsA_of TPl_ok mixed (N := fun t => (i.1 + 1, t)) Try.func20 h1 h2 r20_ok [i] false js_one js_one' (by simp [Try.f20]) ?_
  have hnl := hv.nl
  have hsl := hv.sl
  have hql := hv.ql
  have htl := hv.tl
  have u1 := idx_nn n.segs.length
  have u2 := idx_nn n.ports.length
  have v1' : (8 : Int) * n.segs.length ≤ 281474976710656 := by omega
  have v2' : (8 : Int) * n.ports.length ≤ 281474976710656 := by omega
  have v4' : (n.segs.length : Int) ≤ 4611686018427387904 := by omega
  have v5' : (n.ports.length : Int) ≤ 4611686018427387904 := by omega
  simp (config := { maxSteps := 500000 }) only [↓vp, vv, implies_true, forall_const, undef, InI, ↓reduceIte, simprocAttr, c20, TPl, T2, T1, Net.enc, u1, u2, v1', v2', v4', v5', Int.toNat_natCast, rep_i]
  rw [vc_loop]
  refine ⟨fun m s => ∃ at' U g, SrcOk L at' ∧ U.length + m = n.sts.length ∧ s = ⟨fr [(0, .ptr i 0 0 0), (3, .ptr (i.1 + 1, 3) 0 0 0), (4, .ptr (i.1 + 1, 4) 0 0 0), (5, .ptr (i.1 + 1, 5) 0 0 0), (6, di U.length)], PH i n g (List.replicate n.segs.length 0) (List.replicate n.ports.length 0) U L at' Hp.none⟩, ⟨n.sts.length, _, (weak_ownC (i.1 + 1, 5) 0 3 [.own (i.1 + 1, 25) 0 0 n.segs.length, .own (i.1 + 1, 29) 0 0 n.ports.length] [] (i.1 + 1, 1005) 1 (by simp (config := { maxSteps := 500000 }) only [↓vp, vv, implies_true, forall_const, undef, InI, ↓reduceIte, simprocAttr, ]) (by simp (config := { maxSteps := 500000 }) only [↓vp, vv, implies_true, forall_const, undef, InI, ↓reduceIte, simprocAttr, ])).trans (weak_eq [] [i, (i.1 + 1, 3), (i.1 + 1, 4), (i.1 + 1, 5), (i.1 + 1, 25), (i.1 + 1, 29), (i.1 + 1, 1005)] [(0, .ptr i 0 0 0), (3, .ptr (i.1 + 1, 3) 0 0 0), (4, .ptr (i.1 + 1, 4) 0 0 0), (5, .ptr (i.1 + 1, 5) 0 0 0), (6, di 0)] (by simp (config := { maxSteps := 500000 }) only [↓vp, vv, implies_true, forall_const, undef, InI, ↓reduceIte, simprocAttr, coverS, PH, netD, iRow, bRow, List.length_replicate]) (by simp (config := { maxSteps := 500000 }) only [↓vp, vv, implies_true, forall_const, undef, InI, ↓reduceIte, simprocAttr, refsF, PH, netD, iRow, bRow, List.length_replicate]) (by simp (config := { maxSteps := 500000 }) only [↓vp, vv, implies_true, forall_const, undef, InI, ↓reduceIte, simprocAttr, PH, netD, iRow, bRow, List.length_replicate]) (by simp) (by simp (config := { maxSteps := 500000 }) only [↓vp, vv, implies_true, forall_const, undef, InI, ↓reduceIte, simprocAttr, PH, netD, iRow, bRow, List.length_replicate]; try rfl)), at', [], 0, ho, by simp, rfl⟩, ?_⟩
  rintro m s ⟨at2, U, g, o2, hm, rfl⟩
  by_cases hj : U.length < n.sts.length
  · have hj' : (U.length : Int) < n.sts.length := by omega
    have w1 := idx_next (j := U.length) (by omega)
    have y1 : (U.length + 1) * 1 ≤ 140737488355328 := by omega
    have y2 : U.length + 1 ≤ 4611686018427387904 := by omega
    simp (config := { maxSteps := 500000 }) only [↓vp, vv, implies_true, forall_const, undef, InI, ↓reduceIte, simprocAttr, c20_2, c20_1, TPl, T2, T1, selI, PH, netD, hj', o2, w1, y1, y2]
    rintro ⟨at3, o3⟩ v hv2
    refine ⟨m - 1, _, by omega, (weak_eq [] [i, (i.1 + 1, 3), (i.1 + 1, 4), (i.1 + 1, 5), (i.1 + 1, 25), (i.1 + 1, 29), (i.1 + 1, 1005)] [(0, .ptr i 0 0 0), (3, .ptr (i.1 + 1, 3) 0 0 0), (4, .ptr (i.1 + 1, 4) 0 0 0), (5, .ptr (i.1 + 1, 5) 0 0 0), (6, di (U.length + 1 : Nat))] (by simp (config := { maxSteps := 500000 }) only [↓vp, vv, implies_true, forall_const, undef, InI, ↓reduceIte, simprocAttr, coverS, PH, netD, iRow, bRow, w1]) (by simp (config := { maxSteps := 500000 }) only [↓vp, vv, implies_true, forall_const, undef, InI, ↓reduceIte, simprocAttr, refsF, PH, netD, iRow, bRow, w1]) (by simp (config := { maxSteps := 500000 }) only [↓vp, vv, implies_true, forall_const, undef, InI, ↓reduceIte, simprocAttr, PH, netD, iRow, bRow, w1]) (by simp) (by simp (config := { maxSteps := 500000 }) only [↓vp, vv, implies_true, forall_const, undef, InI, ↓reduceIte, simprocAttr, PH, netD, iRow, bRow, w1]; try rfl)), at3, U ++ [v == 0], g + 1, o3, by rw [List.length_append, List.length_singleton]; omega, ?_⟩
    simp only [PH, List.map_append, List.map_cons, List.map_nil, bRow, List.length_append, List.length_singleton]
  · have hj' : ¬ (U.length : Int) < n.sts.length := by omega
    have hU : U.length = n.sts.length := by omega
    simp (config := { maxSteps := 500000 }) only [↓vp, vv, implies_true, forall_const, undef, InI, ↓reduceIte, simprocAttr, c20_2, c20_26, TPl, T2, T1, selI, PH, netD, hj', o2]
    rintro ⟨at3, o3⟩ v hv2 ⟨at4, o4⟩ cv ⟨hc0, hc1, _⟩
    have hc2 := hc1 (by omega)
    obtain ⟨c, rfl⟩ : ∃ c : Nat, cv = c := ⟨cv.toNat, by omega⟩
    refine pl2 i L n hv hp1 g _ _ U (v == 0) c (pg_zero hv) (by omega) _ _ at4 o4 (weak_eq [] [i, (i.1 + 1, 3), (i.1 + 1, 4), (i.1 + 1, 5), (i.1 + 1, 25), (i.1 + 1, 29), (i.1 + 1, 1005)] (PF i (v == 0) c []) (by simp (config := { maxSteps := 500000 }) only [↓vp, vv, implies_true, forall_const, undef, InI, ↓reduceIte, simprocAttr, coverS, PF, PH, netD, iRow, bRow]) (by simp (config := { maxSteps := 500000 }) only [↓vp, vv, implies_true, forall_const, undef, InI, ↓reduceIte, simprocAttr, refsF, PF, PH, netD, iRow, bRow]) (by simp (config := { maxSteps := 500000 }) only [↓vp, vv, implies_true, forall_const, undef, InI, ↓reduceIte, simprocAttr, PF, PH, netD, iRow, bRow]) (by simp) (by simp (config := { maxSteps := 500000 }) only [↓vp, vv, implies_true, forall_const, undef, InI, ↓reduceIte, simprocAttr, PF, PH, netD, iRow, bRow]; try rfl)) ?_
    rintro F at5 R Q o5 hG f0 f4 f5 f7
    have hsm : SmI R ∧ SmI Q := ⟨⟨by have := hG.pr.rl; omega, fun r hr => by have := pr_b hG.pr r hr; omega⟩, by have := hG.ql; omega, fun r hr => by have := hG.qb r hr; omega⟩
    have hp := hG.ok hU
    have hp1 : plnOf1 [D.sl (R.map iRow), .sl (Q.map iRow), .sl (U.map bRow)] = some ⟨R, Q, U⟩ := plnOf1_row ⟨R, Q, U⟩
    have hUl : U.length ≤ 1000000 := by omega
    have pl1 : ∀ (W : List Int), ∀ j, j ∈ W → ∀ d, d ∈ iRow j → d.plain = true := fun _ _ _ d hd => by rw [List.mem_singleton.1 hd]; rfl
    have pl2 : ∀ (W : List Bool), ∀ j, j ∈ W → ∀ d, d ∈ bRow j → d.plain = true := fun _ _ _ d hd => by rw [List.mem_singleton.1 hd]; rfl
    cases c1 : (v == (0 : Int)) with
    | true =>
      rw [c1] at f7
      simp (config := { maxSteps := 500000 }) only [↓vp, vv, implies_true, forall_const, undef, InI, ↓reduceIte, simprocAttr, c20_25, c20_24, r20, TPl, selNeg, PH, netD, f0, f4, f5, f7, hp1, hsm, hUl, Pln.enc, plnD]
      exact ⟨⟨pl1 R, pl1 Q, pl2 U⟩, at5, negP ⟨R, Q, U⟩, o5, hp.neg, rfl, rfl⟩
    | false =>
      rw [c1] at f7
      simp (config := { maxSteps := 500000 }) only [↓vp, vv, implies_true, forall_const, undef, InI, ↓reduceIte, simprocAttr, c20_25, c20_24, r20, TPl, selNeg, PH, netD, f0, f4, f5, f7]
      exact ⟨⟨pl1 R, pl1 Q, pl2 U⟩, at5, ⟨R, Q, U⟩, o5, hp, rfl, rfl⟩
end Go.Proofs.Ytkjibmfggeibjaa

/- Sources: a new one, networks out of it. -/
namespace Go.Proofs.Ytkjibmfggeibjaa
open Go
set_option linter.unusedVariables false
set_option linter.unusedSimpArgs false
set_option maxRecDepth 100000

/-- The row of keep.New. -/
def rowNew : List D → Hp → Nm → Option (Prop × (D → Hp → Prop)) := fun args Hs nn =>
  match args with
  | [.sl L] => some (Hs = Hp.none, Pu (.ptr nn 0 0 0) (Hp.none.put nn (sE (L.take 2000) 0)))
  | _ => Option.none
theorem tc_new {T : Tbl} (hT : TblOk Try.prog T) : TblOk Try.prog (tc 18 rowNew T) :=
  tc_row f18_ok (fun args Hs nn pre R hr hp => by
    unfold rowNew at hr
    split at hr
    · cases hr
      subst hp
      exact ⟨⟨_, _, rfl, rfl⟩, New_c _ nn⟩
    · cases hr) hT
theorem AllI.one {α : Type} {P : Nat → α → Prop} {x : α} (h : P 0 x) : AllI P [x] := (AllI.nil P).snoc h
theorem AllI.two {α : Type} {P : Nat → α → Prop} {x y : α} (h : P 0 x) (k : P 1 y) : AllI P [x, y] := (AllI.one h).snoc k
theorem netOk_ex : NetOk ⟨[nm1B ⟨#[110]⟩ 0, nm1B ⟨#[110]⟩ 1], [⟨nm1B ⟨#[103]⟩ 0, 0, 1, 1, 0, 0, [⟨0, 0, 0⟩, ⟨1, 0, 0⟩]⟩], [⟨nm1B ⟨#[113]⟩ 0, 0, 0⟩, ⟨nm1B ⟨#[113]⟩ 1, 1, 0⟩], [], 0, 0⟩ := by
  refine ⟨AllI.two rfl rfl, by simp, AllI.one ⟨0, 1, by simp, by simp, by simp, segOk_ex _ _ _, fun _ => ⟨rfl, rfl⟩⟩, by simp, ⟨AllI.two ⟨rfl, by simp, by simp, by simp, by simp⟩ ⟨rfl, by simp, by simp, by simp, by simp⟩, by simp, fun _ => rfl, fun _ => rfl, by simp⟩, ⟨AllI.nil _, List.Pairwise.nil, by simp⟩, by simp, by simp⟩
theorem tc_net {T : Tbl} (hT : TblOk Try.prog T) : TblOk Try.prog (tc 19 (rowSrc (sel0 NetOk) Net.enc) T) :=
  tc_src f19_ok (fun args pre post h hp => by
    unfold sel0 at h
    split at h <;> cases h
    exact ⟨⟨_, netOk_ex⟩, Network_c⟩) hT
def selAw : List D → Option (Prop × D)
  | [] => some (True, db true)
  | _ => Option.none
theorem src_new (ns : List Int) (h : ∀ n ∈ ns, InI n) : SrcOk ((ns.map fun n => [di n]).take 2000) 0 :=
  ⟨Int.le_refl _, Int.natCast_nonneg _, by rw [List.length_take]; omega, ns.take 2000, by rw [List.map_take], fun n hn => h n (List.mem_of_mem_take hn)⟩
end Go.Proofs.Ytkjibmfggeibjaa

/- Plans out of a source are valid. -/
namespace Go.Proofs.Ytkjibmfggeibjaa
open Go
set_option linter.unusedVariables false
set_option linter.unusedSimpArgs false
set_option maxRecDepth 100000

theorem plan_sz {n : Net} {p : Pln} (hn : NetOk n) (h : PlanOk n p) : FckPre n p := by
  have hv := check0 (check_ok hn)
  have := hv.sl
  have := hv.ql
  have := hv.tl
  have := h.rl
  have := h.ql
  have := h.ul
  exact ⟨net_sz hn, ⟨by omega, by omega, by omega⟩⟩
def selPlan : List D → Option (Prop × (Pln → Prop))
  | [.agg r] => match netOf1 r with
    | some n => some (NetV n ∧ 1 ≤ n.ports.length, PlanOk n)
    | Option.none => Option.none
  | _ => Option.none
theorem tc_plan {T : Tbl} (hT : TblOk Try.prog T) : TblOk Try.prog (tc 20 (rowSrc selPlan Pln.enc) T) :=
  tc_src f20_ok (fun args pre post h hp => by
    unfold selPlan at h
    split at h
    · split at h
      · rename_i n hn
        cases h
        rw [netOf1_eq hn]
        exact ⟨⟨⟨_, _, List.replicate n.sts.length false⟩, (pg_zero hp.1).ok List.length_replicate⟩, Plan_c n hp.1 hp.2⟩
      · cases h
    · cases h) hT
theorem ports1 {n : Net} (hn : NetOk n) : 1 ≤ n.ports.length := by
  have hp := hn.ports
  have hl := hn.nlen
  have := hp.hd (by omega)
  cases hq : n.ports with
  | nil => rw [hq] at this; cases this
  | cons => simp
end Go.Proofs.Ytkjibmfggeibjaa
