/- ToolMade: Pl5 Nw FlQ E1 Vz Base. -/
import Derived.Test.YtadjhfjiimgddaaTM11
import Derived.Test.YtadjhfjiimgddaaTM7
import Derived.Test.YtadjhfjiimgddaaTM10
import Derived.Test.YtadjhfjiimgddaaTM8
import Derived.Test.YtadjhfjiimgddaaTM3
import Derived.Test.YtadjhfjiimgddaaTM4
import Derived.WalkKit
import Derived.WalkSpells
import Derived.WalkLawsBesides
import Derived.Deep.QuietTactic
import Derived.BigQuiet
import Derived.Lib.Hide
import Derived.Handy
import Derived.OpenShut
set_option linter.defProp false
set_option linter.unusedSimpArgs false
set_option linter.unusedVariables false
set_option maxRecDepth 100000

/- Plans out of a source: the way that is laid. -/
/- Plans out of a source: the way that is laid. -/
namespace Go.Proofs.Ytadjhfjiimgddaa
open Go
theorem minC_b {c : Int} : minC c ≤ 1000 := by unfold minC; split <;> omega
theorem pr_b {n : Net} {R : List Int} (h : PR n R) : ∀ r ∈ R, -1000 ≤ r ∧ r ≤ 1000 := fun r hr => by
  obtain ⟨k, hk⟩ := List.getElem?_of_mem hr
  have hl : k < R.length := by
    rcases Nat.lt_or_ge k R.length with h | h
    · exact h
    · rw [List.getElem?_eq_none h] at hk; cases hk
  have hl2 : k < n.segs.length := by have := h.rl; omega
  have hx : (n.segs[k], r) ∈ n.segs.zip R := zip_of (List.getElem?_eq_getElem hl2) hk
  have := h.rb _ hx
  unfold RateIn at this
  have := @minC_b n.segs[k].cap
  dsimp only at *
  omega
theorem bump_len (n : Net) (rate : Int) (R : List Int) (k : Nat) : (bump n rate R k).length = R.length := by unfold bump; rw [List.length_set]
theorem bumps_len (n : Net) (rate : Int) : ∀ (W : List Nat) (R : List Int), (W.foldl (bump n rate) R).length = R.length
  | [], R => rfl
  | k :: W, R => by rw [List.foldl_cons, bumps_len n rate W, bump_len]
theorem nRow_at (W : List Nat) (j : Nat) (h : j < W.length) : (W.map nRow).getD j [] = [di (W[j] : Nat)] := by rw [getD_map nRow W j h]; rfl
theorem iRow_set (R : List Int) (k : Nat) (x : Int) : (R.map iRow).set k [di x] = (R.set k x).map iRow := (List.map_set ..).symm
theorem fold_take {α β : Type} (f : β → α → β) (b : β) (W : List α) (j : Nat) (h : j < W.length) : (W.take (j + 1)).foldl f b = f ((W.take j).foldl f b) W[j] := by
  rw [← List.take_append_getElem h, List.foldl_append]; rfl
set_option maxHeartbeats 16000000 in
theorem pl6 (i : Nm) (L : List (List D)) (n : Net) (hv : NetV n) (g : Nat) (R Q : List Int) (U : List Bool) (tu : Bool) (c rate : Int) (W : List Nat) (hPR : PR n R) (hroom : ∀ k ∈ W, Room n rate R k) (hnd : W.Nodup) (hr : 1 ≤ rate ∧ rate ≤ 300) (hWl : W.length ≤ 1000000)
    (s : St) (Qx : Ex → St → Prop) (at1 : Int) (hw : Weak [i] s ⟨fr (PF i tu c [(11, di rate), (239, .sl (W.map nRow)), (240, di W.length), (241, di 0)]), PH i n g R Q U L at1 Hp.none⟩)
    (hX : ∀ F, PFk i tu c F → Qx (.exit 10) ⟨F, PH i n g (W.foldl (bump n rate) R) Q U L at1 Hp.none⟩) :
    vc TPl (fun t => (i.1 + 1, t)) [i] (.loop c33_17) Qx s := by
  have hsl := hv.sl
  have pre : ∀ j, PR n ((W.take j).foldl (bump n rate) R) := fun j => (bump_all hr.1 (W.take j) hPR (hnd.sublist (List.take_sublist j W)) fun k hk => hroom k (List.mem_of_mem_take hk)).1
  refine rng_loop W.length (fun j => ⟨fr (PF i tu c [(11, di rate), (239, .sl (W.map nRow)), (240, di W.length), (241, di (j : Nat))]), PH i n g ((W.take j).foldl (bump n rate) R) Q U L at1 Hp.none⟩) (fun _ => True) hw trivial (fun j hj _ => ?_) (fun _ => ?_)
  · have hj' : (j : Int) < W.length := by omega
    have hjn := idx_nn j
    have w1 := idx_next (j := j) (by omega)
    have hgW := nRow_at W j hj
    have hf := fold_take (bump n rate) R W j hj
    have hP := pre j
    have hRl : ((W.take j).foldl (bump n rate) R).length = n.segs.length := hP.rl
    have hrm := hroom _ (List.getElem_mem hj)
    generalize W[j] = k at hgW hf hrm
    obtain ⟨x, _, hx, _, _, _⟩ := hrm
    have hk : k < n.segs.length := by
      rcases Nat.lt_or_ge k n.segs.length with h | h
      · exact h
      · rw [List.getElem?_eq_none h] at hx; cases hx
    have hg := getD_map Seg.row n.segs k hk
    have hx2 : n.segs[k] = x := by rw [List.getElem?_eq_getElem hk] at hx; cases hx; rfl
    rw [hx2] at hg
    generalize hRj : (W.take j).foldl (bump n rate) R = Rj at *
    have hkR : k < Rj.length := by omega
    have hg2 := iRow_at Rj k hkR
    have hb := pr_b hP _ (List.getElem_mem hkR)
    have hgd : Rj.getD k 0 = Rj[k] := by rw [List.getD_eq_getElem?_getD, List.getElem?_eq_getElem hkR]; rfl
    have hk0 := idx_nn k
    have hk1 : (k : Int) < n.segs.length := by omega
    have hk2 : (k : Int) < Rj.length := by omega
    have hsd : segD n rate k = (x.fr, x.to, if x.fr < x.to then rate else -rate) := by unfold segD; rw [hx]
    have hbp : bump n rate Rj k = Rj.set k (Rj[k] + if x.fr < x.to then rate else -rate) := by unfold bump; rw [hgd, hsd]
    rw [hbp] at hf
    generalize Rj[k] = r at hg2 hb hf
    have w2 : IntKind.i64.wrap (r + rate) = r + rate := wrap_i (by omega)
    have w3 : IntKind.i64.wrap (r - rate) = r - rate := wrap_i (by omega)
    have hls : ∀ y, (Rj.set k y).length = Rj.length := fun y => List.length_set
    by_cases c1 : x.fr < x.to
    · rw [if_pos c1] at hf
      simp (maxSteps:=500000) only [↓vp, vv, ↓reduceIte, simprocAttr, c33_17, c33_16, c33_15, TPl, PF, PH, netD, hj', hjn, hk, hk0, hk1, hk2, hkR, Int.toNat_natCast, hgW, hg, hg2, Seg.row, c1, w1, w2, iRow_set]
      exact rng_next hj (weak_eq [] [i, (i.1 + 1, 3), (i.1 + 1, 4), (i.1 + 1, 5), (i.1 + 1, 25), (i.1 + 1, 29), (i.1 + 1, 1005)] (PF i tu c [(11, di rate), (239, .sl (W.map nRow)), (240, di W.length), (241, di (j + 1 : Nat))]) (by simp (maxSteps:=500000) only [↓vp, vv, ↓reduceIte, simprocAttr, coverS, PF, PH, netD, iRow, bRow, w1, hf, hls]) (by simp (maxSteps:=500000) only [↓vp, vv, ↓reduceIte, simprocAttr, refsF, PF, PH, netD, iRow, bRow, w1, hf, hls]) (by simp (maxSteps:=500000) only [↓vp, vv, ↓reduceIte, simprocAttr, PF, PH, netD, iRow, bRow, w1, hf, hls]) (by simp) (by simp (maxSteps:=500000) only [↓vp, vv, ↓reduceIte, simprocAttr, PF, PH, netD, iRow, bRow, w1, hf, hls]; try rfl)) trivial
    · rw [if_neg c1] at hf
      have hf2 : r + -rate = r - rate := by omega
      rw [hf2] at hf
      simp (maxSteps:=500000) only [↓vp, vv, ↓reduceIte, simprocAttr, c33_17, c33_16, c33_15, TPl, PF, PH, netD, hj', hjn, hk, hk0, hk1, hk2, hkR, Int.toNat_natCast, hgW, hg, hg2, Seg.row, c1, w1, w3, iRow_set]
      exact rng_next hj (weak_eq [] [i, (i.1 + 1, 3), (i.1 + 1, 4), (i.1 + 1, 5), (i.1 + 1, 25), (i.1 + 1, 29), (i.1 + 1, 1005)] (PF i tu c [(11, di rate), (239, .sl (W.map nRow)), (240, di W.length), (241, di (j + 1 : Nat))]) (by simp (maxSteps:=500000) only [↓vp, vv, ↓reduceIte, simprocAttr, coverS, PF, PH, netD, iRow, bRow, w1, hf, hls]) (by simp (maxSteps:=500000) only [↓vp, vv, ↓reduceIte, simprocAttr, refsF, PF, PH, netD, iRow, bRow, w1, hf, hls]) (by simp (maxSteps:=500000) only [↓vp, vv, ↓reduceIte, simprocAttr, PF, PH, netD, iRow, bRow, w1, hf, hls]) (by simp) (by simp (maxSteps:=500000) only [↓vp, vv, ↓reduceIte, simprocAttr, PF, PH, netD, iRow, bRow, w1, hf, hls]; try rfl)) trivial
  · rw [List.take_length]
    simp (maxSteps:=500000) only [↓vp, vv, ↓reduceIte, simprocAttr, c33_17, PF, Int.lt_irrefl]
    refine hX _ ⟨?_, ?_, ?_, ?_, ?_, ?_⟩ <;> simp (maxSteps:=500000) only [↓vp, vv, ↓reduceIte, simprocAttr, ]
set_option maxHeartbeats 16000000 in
theorem pl3 (i : Nm) (L : List (List D)) (n : Net) (hv : NetV n) (g : Nat) (R Q : List Int) (U : List Bool) (tu : Bool) (c a a0 rate : Int) (hPR : PR n R) (hQl : Q.length = n.ports.length) (hQb : ∀ r ∈ Q, -1000 ≤ r ∧ r ≤ 1000) (hr : 1 ≤ rate ∧ rate ≤ 300) (h0 : 0 ≤ a0 ∧ a0 < n.nodes.length)
    (s : St) (Qx : Ex → St → Prop) (at1 : Int) (o1 : SrcOk L at1) (hw : Weak [i] s ⟨fr (PF i tu c [(9, di a), (10, di a0), (11, di rate), (12, .own (i.1 + 1, 1012) 0 0 0), (13, di (-1))]), PH i n g R Q U L at1 (BW i 0 [])⟩)
    (hX : ∀ F B at2 W gw e at0, SrcOk L at2 → Way n R rate a0 at0 W → W.length ≤ 24 → (e = -1 ∨ EndOk n Q a rate at0 e) → PFk i tu c F → PFw a at0 rate i gw W e F → B (i.1 + 1, 1012) = some ⟨gw, 1, W.map nRow⟩ → Qx (.exit 4) ⟨F, PH i n g R Q U L at2 B⟩) :
    vc TPl (fun t => (i.1 + 1, t)) [i] (.loop c33_14) Qx s := by
  have hnl := hv.nl
  have hql := hv.ql
  rw [vc_loop]
  refine ⟨fun m s => ∃ at' W gw at0, SrcOk L at' ∧ Way n R rate a0 at0 W ∧ (0 ≤ at0 ∧ at0 < n.nodes.length) ∧ at0 + m = n.nodes.length ∧ W.length + m ≤ 24 ∧ s = ⟨fr (PF i tu c [(9, di a), (10, di at0), (11, di rate), (12, .own (i.1 + 1, 1012) gw 0 W.length), (13, di (-1))]), PH i n g R Q U L at' (BW i gw W)⟩, ⟨(n.nodes.length - a0).toNat, _, hw, at1, [], 0, a0, o1, Way.nil n R rate a0, h0, by omega, by simp; omega, rfl⟩, ?_⟩
  rintro m s ⟨at2, W, gw, at0, o2, hW, hat, hm, hWl, rfl⟩
  simp (maxSteps:=500000) only [↓vp, vv, ↓reduceIte, simprocAttr, c33_14, c33_13, TPl, PF, PH, BW, netD]
  refine pl4 i L n g R Q U tu c a at0 rate gw W (by omega) hQl hQb hr _ _ at2 o2 (weak_eq [] [i, (i.1 + 1, 3), (i.1 + 1, 4), (i.1 + 1, 5), (i.1 + 1, 25), (i.1 + 1, 29), (i.1 + 1, 1005), (i.1 + 1, 1012)] (PF i tu c [(9, di a), (10, di at0), (11, di rate), (12, .own (i.1 + 1, 1012) gw 0 W.length), (13, di (-1)), (90, .sl (n.ports.map Port.row)), (91, di n.ports.length), (92, di 0)]) (by simp (maxSteps:=500000) only [↓vp, vv, ↓reduceIte, simprocAttr, coverS, PF, PH, BW, netD, iRow, bRow, nRow]) (by simp (maxSteps:=500000) only [↓vp, vv, ↓reduceIte, simprocAttr, refsF, PF, PH, BW, netD, iRow, bRow, nRow]) (by simp (maxSteps:=500000) only [↓vp, vv, ↓reduceIte, simprocAttr, PF, PH, BW, netD, iRow, bRow, nRow]) (by simp) (by simp (maxSteps:=500000) only [↓vp, vv, ↓reduceIte, simprocAttr, PF, PH, BW, netD, iRow, bRow, nRow]; try rfl)) ?_
  rintro F at3 e o3 he hF hFw
  obtain ⟨f0, f3, f4, f5, f7, f8⟩ := hF
  obtain ⟨f9, f10, f11, f12, f13⟩ := hFw
  rcases he with he | he
  · subst he
    simp (maxSteps:=500000) only [↓vp, vv, ↓reduceIte, simprocAttr, c33_12, c33_11, TPl, PF, PH, BW, netD, f0, f3, f4, f5, f7, f8, f9, f10, f11, f12, f13]
    refine pl5 i L n hv g R Q U tu c a at0 rate gw W hPR.rl (pr_b hPR) hr (by omega) _ _ at3 ((weak_own 16 (i.1 + 1, 1016) 1 (by simp (maxSteps:=500000) only [↓vp, vv, ↓reduceIte, simprocAttr, ]) (by simp (maxSteps:=500000) only [↓vp, vv, ↓reduceIte, simprocAttr, PH, BW])).trans (weak_eq [] [i, (i.1 + 1, 3), (i.1 + 1, 4), (i.1 + 1, 5), (i.1 + 1, 25), (i.1 + 1, 29), (i.1 + 1, 1005), (i.1 + 1, 1012), (i.1 + 1, 1016)] (PF i tu c [(9, di a), (10, di at0), (11, di rate), (12, .own (i.1 + 1, 1012) gw 0 W.length), (13, di (-1)), (16, .own (i.1 + 1, 1016) 0 0 0), (139, .sl (n.segs.map Seg.row)), (140, di n.segs.length), (141, di 0)]) (by simp (maxSteps:=500000) only [↓vp, vv, ↓reduceIte, simprocAttr, coverS, PF, PH, BW, BO, netD, iRow, bRow, nRow, f0, f3, f4, f5, f7, f8, f9, f10, f11, f12, f13]) (by simp (maxSteps:=500000) only [↓vp, vv, ↓reduceIte, simprocAttr, refsF, PF, PH, BW, BO, netD, iRow, bRow, nRow, f0, f3, f4, f5, f7, f8, f9, f10, f11, f12, f13]) (by simp (maxSteps:=500000) only [↓vp, vv, ↓reduceIte, simprocAttr, PF, PH, BW, BO, netD, iRow, bRow, nRow, f0, f3, f4, f5, f7, f8, f9, f10, f11, f12, f13]) (by simp) (by simp (maxSteps:=500000) only [↓vp, vv, ↓reduceIte, simprocAttr, PF, PH, BW, BO, netD, iRow, bRow, nRow, f0, f3, f4, f5, f7, f8, f9, f10, f11, f12, f13]; try rfl))) ?_
    rintro F2 O go hO hOl hF hFw f16
    obtain ⟨f0, f3, f4, f5, f7, f8⟩ := hF
    obtain ⟨f9, f10, f11, f12, f13⟩ := hFw
    cases c1 : ((O.length : Int) == 0) with
    | true =>
      simp (maxSteps:=500000) only [↓vp, vv, ↓reduceIte, simprocAttr, c33_10, TPl, PF, netD, f0, f3, f4, f5, f7, f8, f9, f10, f11, f12, f13, f16, c1]
      refine hX _ _ at3 W gw (-1) at0 o3 hW (by omega) (.inl rfl) ⟨?_, ?_, ?_, ?_, ?_, ?_⟩ ⟨?_, ?_, ?_, ?_, ?_⟩ ?_ <;> simp (maxSteps:=500000) only [↓vp, vv, ↓reduceIte, simprocAttr, BO, f0, f3, f4, f5, f7, f8, f9, f10, f11, f12, f13]
    | false =>
      have hOp : 1 ≤ O.length := by
        have : ¬ (O.length : Int) = 0 := by simpa using c1
        omega
      have b1 := idx_nn O.length
      have b2 : -9223372036854775808 ≤ (O.length : Int) := by omega
      have b3 : (O.length : Int) ≤ 9223372036854775807 := by omega
      simp (maxSteps:=500000) only [↓vp, vv, ↓reduceIte, simprocAttr, c33_10, c33_9, TPl, T2, T1, selI, PF, PH, BO, netD, f0, f3, f4, f5, f7, f8, f9, f10, f11, f12, f13, f16, c1, o3, b2, b3]
      rintro ⟨at4, o4⟩ x ⟨hx0, hx1, _⟩
      have hx2 := hx1 (by omega)
      obtain ⟨xn, rfl⟩ : ∃ xn : Nat, x = xn := ⟨x.toNat, by omega⟩
      have hxn : xn < O.length := by omega
      have hgO := nRow_at O xn hxn
      obtain ⟨sg, r, hs, hR, hea, hup, hroom⟩ := hO _ (List.getElem_mem hxn)
      generalize O[xn] = k at hgO hs hR
      have hk : k < n.segs.length := by
        rcases Nat.lt_or_ge k n.segs.length with h | h
        · exact h
        · rw [List.getElem?_eq_none h] at hs; cases hs
      have hg := getD_map Seg.row n.segs k hk
      have hx2' : n.segs[k] = sg := by rw [List.getElem?_eq_getElem hk] at hs; cases hs; rfl
      have hse := hv.se _ (List.getElem_mem hk)
      rw [hx2'] at hg hse
      have hk0 := idx_nn k
      have hk1 : (k : Int) < n.segs.length := by omega
      have w2 : IntKind.i64.wrap (sg.fr + sg.to) = sg.fr + sg.to := wrap_i (by omega)
      have w3 : IntKind.i64.wrap (sg.fr + sg.to - at0) = sg.fr + sg.to - at0 := wrap_i (by omega)
      have y1 : (W.length + 1) * 8 ≤ 140737488355328 := by omega
      have y2 : W.length + 1 ≤ 4611686018427387904 := by omega
      have hW2 := hW.add hs hR hea hup hroom
      simp (maxSteps:=500000) only [↓vp, vv, ↓reduceIte, simprocAttr, f0, f3, f4, f5, f7, f8, f9, f10, f11, f12, f13, f16, netD, hx0, hx2, hxn, hgO, hg, Seg.row, hk, hk0, hk1, Int.toNat_natCast, w2, w3, y1, y2]
      refine ⟨(n.nodes.length - (sg.fr + sg.to - at0)).toNat, _, by omega, (weak_eq [] [i, (i.1 + 1, 3), (i.1 + 1, 4), (i.1 + 1, 5), (i.1 + 1, 25), (i.1 + 1, 29), (i.1 + 1, 1005), (i.1 + 1, 1012)] (PF i tu c [(9, di a), (10, di (sg.fr + sg.to - at0)), (11, di rate), (12, .own (i.1 + 1, 1012) (gw + 1) 0 (W.length + 1)), (13, di (-1))]) (by simp (maxSteps:=500000) only [↓vp, vv, ↓reduceIte, simprocAttr, coverS, PF, PH, BW, netD, iRow, bRow, nRow, f0, f3, f4, f5, f7, f8, f9, f10, f11, f12, f13, w3]) (by simp (maxSteps:=500000) only [↓vp, vv, ↓reduceIte, simprocAttr, refsF, PF, PH, BW, netD, iRow, bRow, nRow, f0, f3, f4, f5, f7, f8, f9, f10, f11, f12, f13, w3]) (by simp (maxSteps:=500000) only [↓vp, vv, ↓reduceIte, simprocAttr, PF, PH, BW, netD, iRow, bRow, nRow, f0, f3, f4, f5, f7, f8, f9, f10, f11, f12, f13, w3]) (by simp) (by simp (maxSteps:=500000) only [↓vp, vv, ↓reduceIte, simprocAttr, PF, PH, BW, netD, iRow, bRow, nRow, f0, f3, f4, f5, f7, f8, f9, f10, f11, f12, f13, w3]; try rfl)), at4, W ++ [k], gw + 1, sg.fr + sg.to - at0, o4, hW2, by omega, by omega, by rw [List.length_append, List.length_singleton]; omega, ?_⟩
      simp only [PF, PH, BW, List.map_append, List.map_cons, List.map_nil, nRow, List.length_append, List.length_singleton]
  · obtain ⟨k, y, q, rfl, _⟩ := he.2
    have hk0 := idx_nn k
    simp (maxSteps:=500000) only [↓vp, vv, ↓reduceIte, simprocAttr, c33_12, TPl, PF, netD, f0, f3, f4, f5, f7, f8, f9, f10, f11, f12, f13, hk0]
    refine hX _ _ at3 W gw k at0 o3 hW (by omega) (.inr he) ⟨?_, ?_, ?_, ?_, ?_, ?_⟩ ⟨?_, ?_, ?_, ?_, ?_⟩ ?_ <;> simp (maxSteps:=500000) only [↓vp, vv, ↓reduceIte, simprocAttr, BW, f0, f3, f4, f5, f7, f8, f9, f10, f11, f12, f13]
set_option maxHeartbeats 16000000 in
theorem pl2 (i : Nm) (L : List (List D)) (n : Net) (hv : NetV n) (hp1 : 1 ≤ n.ports.length) (g : Nat) (R Q : List Int) (U : List Bool) (tu : Bool) (c : Nat) (hPG : PG n R Q) (hc : c ≤ 1000)
    (s : St) (Qx : Ex → St → Prop) (at1 : Int) (o1 : SrcOk L at1) (hw : Weak [i] s ⟨fr (PF i tu c []), PH i n g R Q U L at1 Hp.none⟩)
    (hX : ∀ F at2 R Q, SrcOk L at2 → PG n R Q → F 0 = .ptr i 0 0 0 → F 4 = .ptr (i.1 + 1, 4) 0 0 0 → F 5 = .ptr (i.1 + 1, 5) 0 0 0 → F 7 = db tu → Qx (.exit 2) ⟨F, PH i n g R Q U L at2 Hp.none⟩) :
    vc TPl (fun t => (i.1 + 1, t)) [i] (.loop c33_23) Qx s := by
  have hnl := hv.nl
  have hql := hv.ql
  rw [vc_loop]
  refine ⟨fun m s => ∃ at' R Q, SrcOk L at' ∧ PG n R Q ∧ m ≤ c ∧ s = ⟨fr (PF i tu m []), PH i n g R Q U L at' Hp.none⟩, ⟨c, _, hw, at1, R, Q, o1, hPG, Nat.le_refl _, rfl⟩, ?_⟩
  rintro m s ⟨at2, R, Q, o2, hG, hmc, rfl⟩
  have nx : 0 < m → ∀ (at3 : Int) (R Q : List Int) (F : Fr) (H : Hp), SrcOk L at3 → PG n R Q → F 0 = .ptr i 0 0 0 → F 3 = .ptr (i.1 + 1, 3) 0 0 0 → F 4 = .ptr (i.1 + 1, 4) 0 0 0 → F 5 = .ptr (i.1 + 1, 5) 0 0 0 → F 7 = db tu → F 8 = di (m - 1 : Nat) →
        H i = some (sE L at3) → H (i.1 + 1, 3) = some ⟨0, 6, [netD n]⟩ → H (i.1 + 1, 4) = some ⟨0, 3, [[.mt, .mt, .mt]]⟩ → H (i.1 + 1, 5) = some ⟨0, 3, [[.own (i.1 + 1, 25) 0 0 R.length, .own (i.1 + 1, 29) 0 0 Q.length, .own (i.1 + 1, 1005) g 0 U.length]]⟩ → H (i.1 + 1, 25) = some ⟨0, 1, R.map iRow⟩ → H (i.1 + 1, 29) = some ⟨0, 1, Q.map iRow⟩ → H (i.1 + 1, 1005) = some ⟨g, 1, U.map bRow⟩ →
        ∃ k' s', k' < m ∧ Weak [i] ⟨F, H⟩ s' ∧ ∃ at' R Q, SrcOk L at' ∧ PG n R Q ∧ k' ≤ c ∧ s' = ⟨fr (PF i tu k' []), PH i n g R Q U L at' Hp.none⟩ := by
    rintro hm at3 R Q F H o3 hG f0 f3 f4 f5 f7 f8 h0 h3 h4 h5 h25 h29 h105
    exact ⟨m - 1, _, by omega, (weak_eq [] [i, (i.1 + 1, 3), (i.1 + 1, 4), (i.1 + 1, 5), (i.1 + 1, 25), (i.1 + 1, 29), (i.1 + 1, 1005)] (PF i tu (m - 1 : Nat) []) (by simp (maxSteps:=500000) only [↓vp, vv, ↓reduceIte, simprocAttr, coverS, PF, PH, netD, iRow, bRow, f0, f3, f4, f5, f7, f8, h0, h3, h4, h5, h25, h29, h105]) (by simp (maxSteps:=500000) only [↓vp, vv, ↓reduceIte, simprocAttr, refsF, PF, PH, netD, iRow, bRow, f0, f3, f4, f5, f7, f8, h0, h3, h4, h5, h25, h29, h105]) (by simp (maxSteps:=500000) only [↓vp, vv, ↓reduceIte, simprocAttr, PF, PH, netD, iRow, bRow, f0, f3, f4, f5, f7, f8, h0, h3, h4, h5, h25, h29, h105]) (by simp) (by simp (maxSteps:=500000) only [↓vp, vv, ↓reduceIte, simprocAttr, PF, PH, netD, iRow, bRow, f0, f3, f4, f5, f7, f8, h0, h3, h4, h5, h25, h29, h105]; try rfl)), at3, R, Q, o3, hG, by omega, rfl⟩
  by_cases hm : 0 < m
  · have hm' : (0 : Int) < m := by omega
    have wm : IntKind.i64.wrap ((m : Int) - 1) = ((m - 1 : Nat) : Int) := by rw [wrap_i (by omega)]; omega
    have b2 : -9223372036854775808 ≤ (n.ports.length : Int) := by omega
    have b3 : (n.ports.length : Int) ≤ 9223372036854775807 := by omega
    simp (maxSteps:=500000) only [↓vp, vv, ↓reduceIte, simprocAttr, c33_23, c33_22, c33_21, TPl, T2, T1, selI, selPick, selRange, PF, PH, netD, hm', wm, o2, b2, b3]
    rintro ⟨at3, o3⟩ av ⟨ha0, ha1, _⟩
    have ha2 := ha1 (by omega)
    obtain ⟨a, rfl⟩ : ∃ a : Nat, av = a := ⟨av.toNat, by omega⟩
    have haq : a < n.ports.length := by omega
    have haQ : a < Q.length := by have := hG.ql; omega
    have haQ' : (a : Int) < Q.length := by omega
    have hg := getD_map Port.row n.ports a haq
    have hg2 := iRow_at Q a haQ
    have hx : n.ports[a]? = some n.ports[a] := List.getElem?_eq_getElem haq
    have hy : Q[a]? = some Q[a] := List.getElem?_eq_getElem haQ
    have hb := hG.qb _ (List.getElem_mem haQ)
    have hpe := hv.pe _ (List.getElem_mem haq)
    generalize n.ports[a] = x at hg hx hpe
    generalize Q[a] = qa at hg2 hy hb
    simp (maxSteps:=500000) only [↓vp, vv, ↓reduceIte, simprocAttr, ha0, ha2, haq, haQ, haQ', hg, hg2, Port.row, Int.toNat_natCast, netD, o3]
    rintro ⟨at4, o4⟩ pk hpk
    simp [IsMem] at hpk
    refine ⟨⟨⟨by omega, by omega⟩, by omega, by omega⟩, ?_⟩
    rintro ⟨at5, o5⟩ rate hrt
    unfold RPost at hrt
    have hr : 1 ≤ rate ∧ rate ≤ 300 := by omega
    have w4 : IntKind.i64.wrap (qa + rate) = qa + rate := wrap_i (by omega)
    cases c1 : decide (qa < 0) with
    | true =>
      have c1' : qa < 0 := by simpa using c1
      simp (maxSteps:=500000) only [↓vp, vv, ↓reduceIte, simprocAttr, c1, c1', netD, wm]
      refine nx hm at5 R Q _ _ o5 hG ?_ ?_ ?_ ?_ ?_ ?_ ?_ ?_ ?_ ?_ ?_ ?_ ?_ <;> simp (maxSteps:=500000) only [↓vp, vv, ↓reduceIte, simprocAttr, netD, wm]
    | false =>
    have c1' : ¬ qa < 0 := by simpa using c1
    cases c2 : decide (1000 < qa + rate) with
    | true =>
      simp (maxSteps:=500000) only [↓vp, vv, ↓reduceIte, simprocAttr, c1, c1', w4, c2, netD, wm]
      refine nx hm at5 R Q _ _ o5 hG ?_ ?_ ?_ ?_ ?_ ?_ ?_ ?_ ?_ ?_ ?_ ?_ ?_ <;> simp (maxSteps:=500000) only [↓vp, vv, ↓reduceIte, simprocAttr, netD, wm]
    | false =>
    have c2' : ¬ 1000 < qa + rate := by simpa using c2
    simp (maxSteps:=500000) only [↓vp, vv, ↓reduceIte, simprocAttr, c1, c1', w4, c2, netD, wm, c33_20]
    refine pl3 i L n hv g R Q U tu m a x.node rate hG.pr hG.ql hG.qb hr hpe _ _ at5 o5 ((weak_own 12 (i.1 + 1, 1012) 1 (by simp (maxSteps:=500000) only [↓vp, vv, ↓reduceIte, simprocAttr, ]) (by simp (maxSteps:=500000) only [↓vp, vv, ↓reduceIte, simprocAttr, ])).trans (weak_eq [] [i, (i.1 + 1, 3), (i.1 + 1, 4), (i.1 + 1, 5), (i.1 + 1, 25), (i.1 + 1, 29), (i.1 + 1, 1005), (i.1 + 1, 1012)] (PF i tu m [(9, di a), (10, di x.node), (11, di rate), (12, .own (i.1 + 1, 1012) 0 0 0), (13, di (-1))]) (by simp (maxSteps:=500000) only [↓vp, vv, ↓reduceIte, simprocAttr, coverS, PF, PH, BW, netD, iRow, bRow]) (by simp (maxSteps:=500000) only [↓vp, vv, ↓reduceIte, simprocAttr, refsF, PF, PH, BW, netD, iRow, bRow]) (by simp (maxSteps:=500000) only [↓vp, vv, ↓reduceIte, simprocAttr, PF, PH, BW, netD, iRow, bRow]) (by simp) (by simp (maxSteps:=500000) only [↓vp, vv, ↓reduceIte, simprocAttr, PF, PH, BW, netD, iRow, bRow]; try rfl))) ?_
    rintro F B at6 W gw e at' o6 hW hWl he hF hFw hB
    obtain ⟨f0, f3, f4, f5, f7, f8⟩ := hF
    obtain ⟨f9, f10, f11, f12, f13⟩ := hFw
    rcases he with rfl | he
    · simp (maxSteps:=500000) only [↓vp, vv, ↓reduceIte, simprocAttr, c33_19, TPl, PF, PH, netD, f0, f3, f4, f5, f7, f8, f9, f10, f11, f12, f13, wm]
      refine nx hm at6 R Q _ _ o6 hG ?_ ?_ ?_ ?_ ?_ ?_ ?_ ?_ ?_ ?_ ?_ ?_ ?_ <;> simp (maxSteps:=500000) only [↓vp, vv, ↓reduceIte, simprocAttr, netD, wm, f0, f3, f4, f5, f7, f8]
    · obtain ⟨hne, k, y, qe, rfl, hk1, hk2, hk3, hk4, hk5⟩ := he
      have hkQ : k < Q.length := by
        rcases Nat.lt_or_ge k Q.length with h | h
        · exact h
        · rw [List.getElem?_eq_none h] at hk2; cases hk2
      have hkQ' : (k : Int) < Q.length := by omega
      have hk0 := idx_nn k
      have hk6 : ¬ (k : Int) < 0 := by omega
      have ha0' := idx_nn a
      have hQk : Q[k] = qe := by rw [List.getElem?_eq_getElem hkQ] at hk2; cases hk2; rfl
      have hg3 := iRow_at Q k hkQ
      rw [hQk] at hg3
      have hqe := hG.qb qe (List.mem_of_getElem? hk2)
      have w5 : IntKind.i64.wrap (qe - rate) = qe - rate := wrap_i (by omega)
      have hnek : a ≠ k := fun h => hne (by rw [h])
      have hG2 := pg_step hG hW hr.1 hx hk1 hnek rfl hk3 hy hk2 (by omega) (by omega) hk4 hk5
      have hls : ((Q.set a (qa + rate)).set k (qe - rate)).length = Q.length := by rw [List.length_set, List.length_set]
      have hls2 : (Q.set a (qa + rate)).length = Q.length := List.length_set
      have hg4 : ((Q.set a (qa + rate)).map iRow).getD k [] = [di qe] := by
        rw [iRow_at _ k (by rw [List.length_set]; exact hkQ), List.getElem_set_ne hnek, hQk]
      simp (maxSteps:=500000) only [↓vp, vv, ↓reduceIte, simprocAttr, c33_19, c33_18, TPl, PF, PH, netD, f0, f3, f4, f5, f7, f8, f9, f10, f11, f12, f13, hk0, hk6, ha0', haQ, haQ', hkQ, hkQ', hg2, hg3, hg4, Int.toNat_natCast, w4, w5, iRow_set, hls, hls2, List.length_set]
      refine pl6 i L n hv g R ((Q.set a (qa + rate)).set k (qe - rate)) U tu m rate W hG.pr hW.room hW.nd hr (by omega) _ _ at6 (weak_eq [(i.1 + 1, 1012)] [i, (i.1 + 1, 3), (i.1 + 1, 4), (i.1 + 1, 5), (i.1 + 1, 25), (i.1 + 1, 29), (i.1 + 1, 1005)] (PF i tu m [(11, di rate), (239, .sl (W.map nRow)), (240, di W.length), (241, di 0)]) (by simp (maxSteps:=500000) only [↓vp, vv, ↓reduceIte, simprocAttr, coverS, PF, PH, netD, iRow, bRow, nRow, f0, f3, f4, f5, f7, f8, f11, f12, hB, hls, hls2, w4, w5, List.length_set]) (by simp (maxSteps:=500000) only [↓vp, vv, ↓reduceIte, simprocAttr, refsF, PF, PH, netD, iRow, bRow, nRow, f0, f3, f4, f5, f7, f8, f11, f12, hB, hls, hls2, w4, w5, List.length_set]) (by simp (maxSteps:=500000) only [↓vp, vv, ↓reduceIte, simprocAttr, PF, PH, netD, iRow, bRow, nRow, f0, f3, f4, f5, f7, f8, f11, f12, hB, hls, hls2, w4, w5, List.length_set]) (by simp) (by simp (maxSteps:=500000) only [↓vp, vv, ↓reduceIte, simprocAttr, PF, PH, netD, iRow, bRow, nRow, f0, f3, f4, f5, f7, f8, f11, f12, hB, hls, hls2, w4, w5, List.length_set]; try rfl)) ?_
      rintro F2 ⟨f0, f3, f4, f5, f7, f8⟩
      have hbl := bumps_len n rate W R
      simp (maxSteps:=500000) only [↓vp, vv, ↓reduceIte, simprocAttr, TPl, PF, PH, netD, f0, f3, f4, f5, f7, f8, wm]
      refine nx hm at6 _ _ _ _ o6 hG2 ?_ ?_ ?_ ?_ ?_ ?_ ?_ ?_ ?_ ?_ ?_ ?_ ?_ <;> simp (maxSteps:=500000) only [↓vp, vv, ↓reduceIte, simprocAttr, netD, wm, f0, f3, f4, f5, f7, f8]
  · obtain rfl : m = 0 := by omega
    simp (maxSteps:=500000) only [↓vp, vv, ↓reduceIte, simprocAttr, c33_23, PF]
    refine hX _ at2 R Q o2 hG ?_ ?_ ?_ ?_ <;> simp (maxSteps:=500000) only [↓vp, vv, ↓reduceIte, simprocAttr, ]
theorem pg_zero {n : Net} (hv : NetV n) : PG n (List.replicate n.segs.length 0) (List.replicate n.ports.length 0) := by
  have z : ∀ x, x ∈ n.segs.zip (List.replicate n.segs.length (0 : Int)) → x.2 = 0 := fun x hx => (List.mem_replicate.1 (List.of_mem_zip hx).2).2
  refine ⟨⟨List.length_replicate, fun x hx => ?_, fun x hx h => absurd (z x hx) h⟩, List.length_replicate, fun r hr => ?_, fun v => ?_⟩
  · have := (hv.se x.1 (List.of_mem_zip hx).1).2.2.2.1
    unfold RateIn minC
    rw [z x hx]
    split <;> omega
  · rw [(List.mem_replicate.1 hr).2]; omega
  · refine sumI_zero fun t ht => ?_
    have : t.2.2 = 0 := by
      unfold flowsOf at ht
      rcases List.mem_append.1 ht with ht | ht
      · rw [← List.map_uncurry_zip_eq_zipWith] at ht
        obtain ⟨x, hx, rfl⟩ := List.mem_map.1 ht
        exact (List.mem_replicate.1 (List.of_mem_zip hx).2).2
      · rw [← List.map_uncurry_zip_eq_zipWith] at ht
        obtain ⟨x, hx, rfl⟩ := List.mem_map.1 ht
        exact (List.mem_replicate.1 (List.of_mem_zip hx).2).2
    unfold netOf
    rw [this]
    split <;> split <;> rfl
theorem rep_i (k : Nat) : List.replicate k [di 0] = (List.replicate k 0).map iRow := by rw [List.map_replicate]; rfl
set_option maxHeartbeats 16000000 in
theorem Plan_c (n : Net) (hv : NetV n) (hp1 : 1 ≤ n.ports.length) : SrcC Try.prog 33 [n.enc] (PlanOk n) Pln.enc := by
  intro i L at' nn ho
  obtain ⟨code, h1, h2⟩ := c33_ok
  refine callsA_of TPl_ok mixed (N := fun t => (i.1 + 1, t)) Try.func33 h1 h2 r33_ok [i] false js_one js_one' (by simp [Try.f33]) ?_
  have hnl := hv.nl
  have hsl := hv.sl
  have hql := hv.ql
  have htl := hv.tl
  have u1 := idx_nn n.segs.length
  have u2 := idx_nn n.ports.length
  have v1' : (8 : Int) * n.segs.length ≤ 281474976710656 := by omega
  have v2' : (8 : Int) * n.ports.length ≤ 281474976710656 := by omega
  have v4' : (n.segs.length : Int) ≤ 4611686018427387904 := by omega
  have v5' : (n.ports.length : Int) ≤ 4611686018427387904 := by omega
  simp (maxSteps:=500000) only [↓vp, vv, ↓reduceIte, simprocAttr, c33, TPl, T2, T1, Net.enc, u1, u2, v1', v2', v4', v5', Int.toNat_natCast, rep_i]
  rw [vc_loop]
  refine ⟨fun m s => ∃ at' U g, SrcOk L at' ∧ U.length + m = n.sts.length ∧ s = ⟨fr [(0, .ptr i 0 0 0), (3, .ptr (i.1 + 1, 3) 0 0 0), (4, .ptr (i.1 + 1, 4) 0 0 0), (5, .ptr (i.1 + 1, 5) 0 0 0), (6, di U.length)], PH i n g (List.replicate n.segs.length 0) (List.replicate n.ports.length 0) U L at' Hp.none⟩, ⟨n.sts.length, _, (weak_ownC (i.1 + 1, 5) 0 3 [.own (i.1 + 1, 25) 0 0 n.segs.length, .own (i.1 + 1, 29) 0 0 n.ports.length] [] (i.1 + 1, 1005) 1 (by simp (maxSteps:=500000) only [↓vp, vv, ↓reduceIte, simprocAttr, ]) (by simp (maxSteps:=500000) only [↓vp, vv, ↓reduceIte, simprocAttr, ])).trans (weak_eq [] [i, (i.1 + 1, 3), (i.1 + 1, 4), (i.1 + 1, 5), (i.1 + 1, 25), (i.1 + 1, 29), (i.1 + 1, 1005)] [(0, .ptr i 0 0 0), (3, .ptr (i.1 + 1, 3) 0 0 0), (4, .ptr (i.1 + 1, 4) 0 0 0), (5, .ptr (i.1 + 1, 5) 0 0 0), (6, di 0)] (by simp (maxSteps:=500000) only [↓vp, vv, ↓reduceIte, simprocAttr, coverS, PH, netD, iRow, bRow, List.length_replicate]) (by simp (maxSteps:=500000) only [↓vp, vv, ↓reduceIte, simprocAttr, refsF, PH, netD, iRow, bRow, List.length_replicate]) (by simp (maxSteps:=500000) only [↓vp, vv, ↓reduceIte, simprocAttr, PH, netD, iRow, bRow, List.length_replicate]) (by simp) (by simp (maxSteps:=500000) only [↓vp, vv, ↓reduceIte, simprocAttr, PH, netD, iRow, bRow, List.length_replicate]; try rfl)), at', [], 0, ho, by simp, rfl⟩, ?_⟩
  rintro m s ⟨at2, U, g, o2, hm, rfl⟩
  by_cases hj : U.length < n.sts.length
  · have hj' : (U.length : Int) < n.sts.length := by omega
    have w1 := idx_next (j := U.length) (by omega)
    have y1 : (U.length + 1) * 1 ≤ 140737488355328 := by omega
    have y2 : U.length + 1 ≤ 4611686018427387904 := by omega
    simp (maxSteps:=500000) only [↓vp, vv, ↓reduceIte, simprocAttr, c33_2, c33_1, TPl, T2, T1, selI, PH, netD, hj', o2, w1, y1, y2]
    rintro ⟨at3, o3⟩ v hv2
    refine ⟨m - 1, _, by omega, (weak_eq [] [i, (i.1 + 1, 3), (i.1 + 1, 4), (i.1 + 1, 5), (i.1 + 1, 25), (i.1 + 1, 29), (i.1 + 1, 1005)] [(0, .ptr i 0 0 0), (3, .ptr (i.1 + 1, 3) 0 0 0), (4, .ptr (i.1 + 1, 4) 0 0 0), (5, .ptr (i.1 + 1, 5) 0 0 0), (6, di (U.length + 1 : Nat))] (by simp (maxSteps:=500000) only [↓vp, vv, ↓reduceIte, simprocAttr, coverS, PH, netD, iRow, bRow, w1]) (by simp (maxSteps:=500000) only [↓vp, vv, ↓reduceIte, simprocAttr, refsF, PH, netD, iRow, bRow, w1]) (by simp (maxSteps:=500000) only [↓vp, vv, ↓reduceIte, simprocAttr, PH, netD, iRow, bRow, w1]) (by simp) (by simp (maxSteps:=500000) only [↓vp, vv, ↓reduceIte, simprocAttr, PH, netD, iRow, bRow, w1]; try rfl)), at3, U ++ [v == 0], g + 1, o3, by rw [List.length_append, List.length_singleton]; omega, ?_⟩
    simp only [PH, List.map_append, List.map_cons, List.map_nil, bRow, List.length_append, List.length_singleton]
  · have hj' : ¬ (U.length : Int) < n.sts.length := by omega
    have hU : U.length = n.sts.length := by omega
    simp (maxSteps:=500000) only [↓vp, vv, ↓reduceIte, simprocAttr, c33_2, c33_26, TPl, T2, T1, selI, PH, netD, hj', o2]
    rintro ⟨at3, o3⟩ v hv2 ⟨at4, o4⟩ cv ⟨hc0, hc1, _⟩
    have hc2 := hc1 (by omega)
    obtain ⟨c, rfl⟩ : ∃ c : Nat, cv = c := ⟨cv.toNat, by omega⟩
    refine pl2 i L n hv hp1 g _ _ U (v == 0) c (pg_zero hv) (by omega) _ _ at4 o4 (weak_eq [] [i, (i.1 + 1, 3), (i.1 + 1, 4), (i.1 + 1, 5), (i.1 + 1, 25), (i.1 + 1, 29), (i.1 + 1, 1005)] (PF i (v == 0) c []) (by simp (maxSteps:=500000) only [↓vp, vv, ↓reduceIte, simprocAttr, coverS, PF, PH, netD, iRow, bRow]) (by simp (maxSteps:=500000) only [↓vp, vv, ↓reduceIte, simprocAttr, refsF, PF, PH, netD, iRow, bRow]) (by simp (maxSteps:=500000) only [↓vp, vv, ↓reduceIte, simprocAttr, PF, PH, netD, iRow, bRow]) (by simp) (by simp (maxSteps:=500000) only [↓vp, vv, ↓reduceIte, simprocAttr, PF, PH, netD, iRow, bRow]; try rfl)) ?_
    rintro F at5 R Q o5 hG f0 f4 f5 f7
    have hsm : SmI R ∧ SmI Q := ⟨⟨by have := hG.pr.rl; omega, fun r hr => by have := pr_b hG.pr r hr; omega⟩, by have := hG.ql; omega, fun r hr => by have := hG.qb r hr; omega⟩
    have hp := hG.ok hU
    have hp1 : plnOf1 [D.sl (R.map iRow), .sl (Q.map iRow), .sl (U.map bRow)] = some ⟨R, Q, U⟩ := plnOf1_row ⟨R, Q, U⟩
    have hUl : U.length ≤ 1000000 := by omega
    have pl1 : ∀ (W : List Int), ∀ j, j ∈ W → ∀ d, d ∈ iRow j → d.plain = true := fun _ _ _ d hd => by rw [List.mem_singleton.1 hd]; rfl
    have pl2 : ∀ (W : List Bool), ∀ j, j ∈ W → ∀ d, d ∈ bRow j → d.plain = true := fun _ _ _ d hd => by rw [List.mem_singleton.1 hd]; rfl
    cases c1 : (v == (0 : Int)) with
    | true =>
      rw [c1] at f7
      simp (maxSteps:=500000) only [↓vp, vv, ↓reduceIte, simprocAttr, c33_25, c33_24, r33, TPl, selNeg, PH, netD, f0, f4, f5, f7, hp1, hsm, hUl, Pln.enc, plnD]
      exact ⟨⟨pl1 R, pl1 Q, pl2 U⟩, at5, negP ⟨R, Q, U⟩, o5, hp.neg, rfl, rfl⟩
    | false =>
      rw [c1] at f7
      simp (maxSteps:=500000) only [↓vp, vv, ↓reduceIte, simprocAttr, c33_25, c33_24, r33, TPl, selNeg, PH, netD, f0, f4, f5, f7]
      exact ⟨⟨pl1 R, pl1 Q, pl2 U⟩, at5, ⟨R, Q, U⟩, o5, hp, rfl, rfl⟩
def rowNew : List D → Hp → Nm → Option (Prop × (D → Hp → Prop)) := fun args Hs nn =>
  match args with
  | [.sl L] => some (Hs = Hp.none, Pu (.ptr nn 0 0 0) (Hp.none.put nn (sE (L.take 2000) 0)))
  | _ => Option.none
theorem tc_new {T : Tbl} (hT : TblOk Try.prog T) : TblOk Try.prog (tc 8 rowNew T) :=
  tc_row f8_ok (fun args Hs nn pre R hr hp => by
    unfold rowNew at hr
    split at hr
    · cases hr
      subst hp
      exact ⟨⟨_, _, rfl, rfl⟩, New_c _ nn⟩
    · cases hr) hT
theorem AllI.one {α : Type} {P : Nat → α → Prop} {x : α} (h : P 0 x) : AllI P [x] := (AllI.nil P).snoc h
theorem AllI.two {α : Type} {P : Nat → α → Prop} {x y : α} (h : P 0 x) (k : P 1 y) : AllI P [x, y] := (AllI.one h).snoc k
theorem netOk_ex : NetOk ⟨[nm1B ⟨#[110]⟩ 0, nm1B ⟨#[110]⟩ 1], [⟨nm1B ⟨#[103]⟩ 0, 0, 1, 1, 0, 0, [⟨0, 0, 0⟩, ⟨1, 0, 0⟩]⟩], [⟨nm1B ⟨#[113]⟩ 0, 0, 0⟩, ⟨nm1B ⟨#[113]⟩ 1, 1, 0⟩], [], 0, 0⟩ := by
  refine ⟨AllI.two rfl rfl, by simp, AllI.one ⟨0, 1, by simp, by simp, by simp, segOk_ex _ _ _, fun _ => ⟨rfl, rfl⟩⟩, by simp, ⟨AllI.two ⟨rfl, by simp, by simp, by simp, by simp⟩ ⟨rfl, by simp, by simp, by simp, by simp⟩, by simp, fun _ => rfl, fun _ => rfl, by simp⟩, ⟨AllI.nil _, List.Pairwise.nil, by simp⟩, by simp, by simp⟩
theorem tc_net {T : Tbl} (hT : TblOk Try.prog T) : TblOk Try.prog (tc 32 (rowSrc (sel0 NetOk) Net.enc) T) :=
  tc_src f32_ok (fun args pre post h hp => by
    unfold sel0 at h
    split at h <;> cases h
    exact ⟨⟨_, netOk_ex⟩, Network_c⟩) hT
def selAw : List D → Option (Prop × D)
  | [] => some (True, db true)
  | _ => Option.none
theorem src_new (ns : List Int) (h : ∀ n ∈ ns, InI n) : SrcOk ((ns.map fun n => [di n]).take 2000) 0 :=
  ⟨Int.le_refl _, Int.natCast_nonneg _, by rw [List.length_take]; omega, ns.take 2000, by rw [List.map_take], fun n hn => h n (List.mem_of_mem_take hn)⟩
theorem with_t {r m : Int} (h1 : -m ≤ r) (h2 : r ≤ m) : withB r m = true := by unfold withB; rw [if_pos h1]; exact decide_eq_true h2
theorem len_f {n : Net} {p : Pln} (h1 : p.rates.length = n.segs.length) (h2 : p.ports.length = n.ports.length) (h3 : p.pumps.length = n.sts.length) : lenBad n p = false := by
  unfold lenBad
  rw [h1, h2, h3]
  simp
theorem any_ff {α : Type} {p : α → Bool} {l : List α} (h : ∀ x ∈ l, p x = false) : l.any p = false := List.any_eq_false.2 fun x hx e => by rw [h x hx] at e; cases e
theorem plan0 {n : Net} {p : Pln} (hck : checkI n = 0) (h : PlanOk n p) : fckI n p = 0 := by
  have hv := check0 hck
  unfold fckI
  rw [if_pos hck, len_f h.rl h.ql h.ul, any_ff fun x hx => ?_, any_ff fun r hr => ?_, if_pos ((bal_iff _).2 fun v _ => h.bal v)]
  · have := ord_full (edge_ok p hv) h.mono
    unfold ordB
    rw [this]
    simp
  · have := h.qb r hr
    unfold portBadR
    rw [with_t (by omega) (by omega)]
    rfl
  · have := h.rb x hx
    unfold RateIn at this
    unfold rateBad
    rw [most_min, with_t this.1 this.2]
    rfl
theorem plan_sz {n : Net} {p : Pln} (hn : NetOk n) (h : PlanOk n p) : FckPre n p := by
  have hv := check0 (check_ok hn)
  have := hv.sl
  have := hv.ql
  have := hv.tl
  have := h.rl
  have := h.ql
  have := h.ul
  exact ⟨net_sz hn, ⟨by omega, by omega, by omega⟩⟩
def selPlan : List D → Option (Prop × (Pln → Prop))
  | [.agg r] => match netOf1 r with
    | some n => some (NetV n ∧ 1 ≤ n.ports.length, PlanOk n)
    | Option.none => Option.none
  | _ => Option.none
theorem tc_plan {T : Tbl} (hT : TblOk Try.prog T) : TblOk Try.prog (tc 33 (rowSrc selPlan Pln.enc) T) :=
  tc_src f33_ok (fun args pre post h hp => by
    unfold selPlan at h
    split at h
    · split at h
      · rename_i n hn
        cases h
        rw [netOf1_eq hn]
        exact ⟨⟨⟨_, _, List.replicate n.sts.length false⟩, (pg_zero hp.1).ok List.length_replicate⟩, Plan_c n hp.1 hp.2⟩
      · cases h
    · cases h) hT
theorem ports1 {n : Net} (hn : NetOk n) : 1 ≤ n.ports.length := by
  have hp := hn.ports
  have hl := hn.nlen
  have := hp.hd (by omega)
  cases hq : n.ports with
  | nil => rw [hq] at this; cases this
  | cons => simp
def lookF (b : Bool) (t : Nat) : List (Nat × D) → D
  | [] => bif b then .v undef else .any
  | (k, d) :: l => bif Nat.beq t k then d else lookF b t l
def frB (b : Bool) (l : List (Nat × D)) : Fr := fun t => lookF b t l
def nmEq (i j : Nm) : Bool := Nat.beq i.1 j.1 && Nat.beq i.2 j.2
theorem nmEq_iff (i j : Nm) : nmEq i j = true ↔ i = j := by
  obtain ⟨a, b⟩ := i
  obtain ⟨c, d⟩ := j
  simp [nmEq]
def lookH (i : Nm) : List (Nm × En) → Option En
  | [] => Option.none
  | (j, e) :: l => bif nmEq i j then some e else lookH i l
def hp (l : List (Nm × En)) : Hp := fun i => lookH i l
theorem hp_nil : hp [] = Hp.none := rfl
theorem hp_cons (i : Nm) (e : En) (l : List (Nm × En)) : hp ((i, e) :: l) = (hp l).put i e := by
  funext j
  simp only [hp, lookH, Hp.put]
  by_cases h : j = i
  · rw [(nmEq_iff j i).2 h, if_pos h]; rfl
  · rw [Bool.eq_false_iff.2 (fun k => h ((nmEq_iff j i).1 k)), if_neg h]; rfl
theorem frB_cons (b : Bool) (k : Nat) (d : D) (l : List (Nat × D)) : frB b ((k, d) :: l) = putF (frB b l) (some k) d := by
  funext t
  simp only [frB, lookF, putF]
  by_cases h : t = k
  · subst h; rw [if_pos rfl, Nat.beq_refl]; rfl
  · rw [if_neg h, Bool.eq_false_iff.2 (fun q => h (Nat.eq_of_beq_eq_true q))]; rfl
structure SL where
  b : Bool
  F : List (Nat × D)
  H : List (Nm × En)
def SL.st (s : SL) : St := ⟨frB s.b s.F, hp s.H⟩
def killsL (H : List (Nm × En)) : List Nm → List (Nm × En)
  | [] => H
  | i :: is =>
    match lookH i H with
    | some e => killsL ((i, ⟨e.g + 1, e.sz, []⟩) :: H) is
    | Option.none => killsL H is
theorem killsL_eq : ∀ (js : List Nm) (H : List (Nm × En)), hp (killsL H js) = (hp H).kills js
  | [], H => rfl
  | i :: is, H => by
    unfold killsL Hp.kills Hp.kill
    have e : hp H i = lookH i H := rfl
    rw [e]
    cases lookH i H with
    | none => exact killsL_eq is H
    | some e => dsimp only; rw [killsL_eq is, hp_cons]
def listB {α : Type} (p : α → Bool) : List α → Bool
  | [] => true
  | x :: xs => p x && listB p xs
theorem listB_iff {α : Type} {p : α → Bool} : ∀ {l : List α}, listB p l = true → ∀ x ∈ l, p x = true
  | x :: xs, h, y, hy => by
    rw [listB, Bool.and_eq_true] at h
    cases hy with
    | head => exact h.1
    | tail _ hy => exact listB_iff h.2 y hy
def lendOk1B (H : Hp) : D → Bool
  | .own i g off n =>
    match H i with
    | some e => listB (fun r => listB D.plain r) e.rows && decide (off + n ≤ e.rows.length)
    | Option.none => true
  | _ => true
theorem lendOk1B_ok {H : Hp} {d : D} (h : lendOk1B H d = true) : lendOk1 H d := by
  cases d with
  | own i g off n =>
    unfold lendOk1B at h
    unfold lendOk1
    dsimp only at h ⊢
    split
    · rename_i e he
      rw [he] at h
      dsimp only at h
      rw [Bool.and_eq_true] at h
      exact ⟨fun r hr d hd => listB_iff (listB_iff h.1 r hr) d hd, of_decide_eq_true h.2⟩
    · trivial
  | _ => exact trivial
end Go.Proofs.Ytadjhfjiimgddaa
/- Functions over abstract data, run by the kernel: code and functions. No program in sight. -/
namespace Go.Proofs.Ytadjhfjiimgddaa
open Go
theorem frB_fr (l : List (Nat × D)) : frB false l = fr l := by
  funext t
  induction l with
  | nil => rfl
  | cons q l ih =>
    obtain ⟨k, d⟩ := q
    rw [frB_cons]
    simp only [putF, fr]
    split
    · rfl
    · exact ih
def lendK (ks : List Nm) (H : Hp) : D → D
  | .own i g o n => bif nmIn i ks then lend1 H (.own i g o n) else .own i g o n
  | d => d
def lendKd (ks : List Nm) (H : Hp) : D → D
  | .agg cs => .agg (cs.map (lendK ks H))
  | d => lendK ks H d
def okK (ks : List Nm) (H : Hp) : D → Bool
  | .own i g o n => bif nmIn i ks then lendOk1B H (.own i g o n) else true
  | _ => true
def okKd (ks : List Nm) (H : Hp) : D → Bool
  | .agg cs => listB (okK ks H) cs
  | d => okK ks H d
def frzRows (ks : List Nm) (H : Hp) (e : En) : En := ⟨e.g, e.sz, e.rows.map fun r => r.map (lendK ks H)⟩
def frzF (ks : List Nm) (H : Hp) : List (Nat × D) → List (Nat × D)
  | [] => []
  | (t, d) :: l => (t, lendKd ks H d) :: frzF ks H l
def frzH (ks : List Nm) (H : Hp) : List (Nm × En) → List (Nm × En)
  | [] => []
  | (i, e) :: l => (i, frzRows ks H e) :: frzH ks H l
def freeze (ks : List Nm) (s : SL) : SL :=
  bif listB (fun q => okKd ks (hp s.H) q.2) s.F && listB (fun q => listB (fun r => listB (okK ks (hp s.H)) r) q.2.rows) s.H then
    ⟨s.b, frzF ks (hp s.H) s.F, frzH ks (hp s.H) (killsL s.H ks)⟩
  else s
theorem frzF_at (b : Bool) (ks : List Nm) (H : Hp) (t : Nat) : ∀ l : List (Nat × D), lookF b t (frzF ks H l) = lendKd ks H (lookF b t l)
  | [] => by cases b <;> rfl
  | (k, d) :: l => by
    simp only [frzF, lookF]
    cases Nat.beq t k with
    | true => rfl
    | false => exact frzF_at b ks H t l
theorem frzH_at (ks : List Nm) (H : Hp) (i : Nm) : ∀ l : List (Nm × En), lookH i (frzH ks H l) = (lookH i l).map (frzRows ks H)
  | [] => rfl
  | (k, d) :: l => by
    simp only [frzH, lookH]
    cases nmEq i k with
    | true => rfl
    | false => exact frzH_at ks H i l
theorem lookF_mem {b : Bool} {t : Nat} : ∀ {l : List (Nat × D)}, (∃ q ∈ l, q.2 = lookF b t l) ∨ lookF b t l = .v undef ∨ lookF b t l = .any
  | [] => by cases b <;> simp [lookF]
  | (k, d) :: l => by
    simp only [lookF]
    cases Nat.beq t k with
    | true => exact .inl ⟨_, List.mem_cons_self .., rfl⟩
    | false =>
      rcases @lookF_mem b t l with ⟨q, h1, h2⟩ | h
      · exact .inl ⟨q, List.mem_cons_of_mem _ h1, h2⟩
      · exact .inr h
theorem lookH_mem {i : Nm} {e : En} : ∀ {l : List (Nm × En)}, lookH i l = some e → ∃ q ∈ l, q.2 = e
  | (k, d) :: l, h => by
    simp only [lookH] at h
    cases hk : nmEq i k with
    | true => rw [hk] at h; cases h; exact ⟨_, List.mem_cons_self .., rfl⟩
    | false =>
      rw [hk] at h
      obtain ⟨q, h1, h2⟩ := lookH_mem h
      exact ⟨q, List.mem_cons_of_mem _ h1, h2⟩
theorem kill_other {H : Hp} {i j : Nm} (h : j ≠ i) : H.kill i j = H j := by
  unfold Hp.kill
  cases H i with
  | some e => exact Hp.put_other _ h _
  | none => rfl
theorem kill_rows {H : Hp} {i j : Nm} {e : En} (h : H.kill i j = some e) (hn : e.rows ≠ []) : H j = some e ∧ j ≠ i := by
  by_cases hj : j = i
  · subst hj
    cases hi : H j with
    | some e0 =>
      simp only [Hp.kill, hi, Hp.put_same, Option.some.injEq] at h
      rw [← h] at hn
      exact absurd rfl hn
    | none =>
      simp only [Hp.kill, hi] at h
      cases h
  · rw [kill_other hj] at h
    exact ⟨h, hj⟩
theorem kills_rows {j : Nm} {e : En} : ∀ {ks : List Nm} {H : Hp}, H.kills ks j = some e → e.rows ≠ [] → H j = some e ∧ j ∉ ks
  | [], H, h, hn => ⟨h, by simp⟩
  | k :: ks, H, h, hn => by
    rw [Hp.kills] at h
    obtain ⟨h1, h2⟩ := kills_rows (ks := ks) h hn
    obtain ⟨h3, h4⟩ := kill_rows h1 hn
    exact ⟨h3, by simp [h4, h2]⟩
theorem lendK_rel {Im Im' : Nat → Prop} {p : Pl} {H H' : Hp} {h : Array Obj} (R : RelH Im p H h) (G : Grows Im p H h Im' p H' h) {d : D} {u : Value} (r : Rel Im p H h d u) {ks : List Nm} (ok : okK ks H d = true) (hk : ∀ i ∈ ks, ∀ e, H i = some e → e.rows ≠ [] → Im' (p i).1) : Rel Im' p H' h (lendK ks H d) u := by
  cases d with
  | own i g o n =>
    unfold lendK
    unfold okK at ok
    dsimp only at ok ⊢
    cases hi : nmIn i ks with
    | false => exact r.mono G
    | true =>
      rw [hi] at ok
      refine lend1_rel R G r (lendOk1B_ok ok) fun j hj => ?_
      unfold lendNm1 at hj
      dsimp only at hj
      split at hj
      · split at hj
        · rw [List.mem_singleton.1 hj]; exact hk i (nmIn_iff.1 hi)
        · cases hj
      · cases hj
  | _ => exact r.mono G
theorem lendKd_rel {Im Im' : Nat → Prop} {p : Pl} {H H' : Hp} {h : Array Obj} (R : RelH Im p H h) (G : Grows Im p H h Im' p H' h) {d : D} {u : Value} (r : Rel Im p H h d u) {ks : List Nm} (ok : okKd ks H d = true) (hk : ∀ i ∈ ks, ∀ e, H i = some e → e.rows ≠ [] → Im' (p i).1) : Rel Im' p H' h (lendKd ks H d) u := by
  cases d with
  | agg cs =>
    obtain ⟨us, rfl, RL⟩ := RelL.of_agg r
    have : RelL Im' p H' h (cs.map (lendK ks H)) us.toList := by
      refine ⟨by rw [List.length_map, RL.len], fun j d u hd hu => ?_⟩
      rw [List.getElem?_map] at hd
      cases hc : cs[j]? with
      | none => rw [hc] at hd; cases hd
      | some c =>
        rw [hc] at hd
        cases hd
        obtain ⟨k1, k2⟩ := RL.cell j c u hc hu
        exact ⟨lendK_rel R G k1 (listB_iff ok c (List.mem_of_getElem? hc)) hk, k2⟩
    have k := this.rel
    simp only [Array.toArray_toList] at k
    exact k
  | v => exact lendK_rel R G r ok hk
  | any => exact lendK_rel R G r ok hk
  | tup => exact lendK_rel R G r ok hk
  | sl => exact lendK_rel R G r ok hk
  | ip => exact lendK_rel R G r ok hk
  | mt => exact lendK_rel R G r ok hk
  | own => exact lendK_rel R G r ok hk
  | ptr => exact lendK_rel R G r ok hk
  | clo => exact lendK_rel R G r ok hk
theorem freeze_weak (J ks : List Nm) (s : SL) : Weak J s.st (freeze ks s).st := by
  unfold freeze
  cases hc : listB (fun q => okKd ks (hp s.H) q.2) s.F && listB (fun q => listB (fun r => listB (okK ks (hp s.H)) r) q.2.rows) s.H with
  | false => exact Weak.refl _ _
  | true =>
    rw [Bool.and_eq_true] at hc
    obtain ⟨c1, c2⟩ := hc
    intro E hE Im p a w hR
    have hRp : RelH Im p (hp s.H) w.heap := hR.hp
    obtain ⟨Im', g1, r1, x1, b1⟩ := kills_spec (E := E) (w := w) ks Im (hp s.H) hRp hR.en
    have e2 : ∀ i, hp (frzH ks (hp s.H) (killsL s.H ks)) i = (((hp s.H).kills ks) i).map (frzRows ks (hp s.H)) := fun i => by
      rw [← killsL_eq]
      exact frzH_at ks (hp s.H) i _
    have g2 : Grows Im' p ((hp s.H).kills ks) w.heap Im' p (hp (frzH ks (hp s.H) (killsL s.H ks))) w.heap := by
      refine ⟨fun _ h => h, fun _ _ => rfl, fun i e hi => ⟨frzRows ks (hp s.H) e, by rw [e2, hi]; rfl, Nat.le_refl _, fun _ => ⟨rfl, rfl, fun hn => ⟨?_, fun c t hct => ⟨c, hct, rfl⟩⟩⟩⟩⟩
      intro k
      unfold frzRows at k
      exact hn (List.map_eq_nil_iff.1 k)
    have back : ∀ i e, hp (frzH ks (hp s.H) (killsL s.H ks)) i = some e → e.rows ≠ [] → ∃ e0, hp s.H i = some e0 ∧ e0.rows ≠ [] ∧ e = frzRows ks (hp s.H) e0 ∧ i ∉ ks ∧ ((hp s.H).kills ks) i = some e0 := fun i e hi hn => by
      rw [e2] at hi
      cases hk : ((hp s.H).kills ks) i with
      | none => rw [hk] at hi; cases hi
      | some e0 =>
        rw [hk] at hi
        cases hi
        have hn0 : e0.rows ≠ [] := fun k => hn (by unfold frzRows; rw [k]; rfl)
        obtain ⟨q1, q2⟩ := kills_rows hk hn0
        exact ⟨e0, q1, hn0, rfl, q2, rfl⟩
    refine ⟨Im', p, hR.sz, fun t => ?_, ⟨fun i e hi hn => ?_, fun i j e e' hi hj hn hn' hij => ?_, r1.im⟩, ⟨x1.os, x1.tape, x1.output, x1.size, x1.block, x1.im, x1.im', fun i e hi hn => ?_⟩, (hR.gr.trans g1).trans g2, hR.df⟩
    · have hf : okKd ks (hp s.H) (lookF s.b t s.F) = true := by
        rcases @lookF_mem s.b t s.F with ⟨q, h1, h2⟩ | h | h
        · rw [← h2]; exact listB_iff c1 q h1
        · rw [h]; rfl
        · rw [h]; rfl
      have := lendKd_rel hRp (g1.trans g2) (hR.fr t) hf b1
      show Rel Im' p _ w.heap (lookF s.b t (frzF ks (hp s.H) s.F)) _
      rw [frzF_at]
      exact this
    · obtain ⟨e0, q1, q2, rfl, q4, _⟩ := back i e hi hn
      obtain ⟨c, t, k1, k2, k3⟩ := hRp.cell i e0 q1 q2
      have hk1 := r1.cell i e0 (by assumption) q2
      obtain ⟨c', t', k1', k2', k3'⟩ := hk1
      refine ⟨c, t, k1, k2', fun r hr => ?_, ?_, fun r j row d hr hd => ?_⟩
      · obtain ⟨r0, hr0, rfl⟩ := List.mem_map.1 hr
        rw [List.length_map]
        exact k3.len r0 hr0
      · have := k3.le
        show (p i).2 + (e0.rows.map _).length * e0.sz ≤ c.size
        rw [List.length_map]
        exact this
      · have hr' : (e0.rows.map fun r => r.map (lendK ks (hp s.H)))[r]? = some row := hr
        rw [List.getElem?_map] at hr'
        cases h0 : e0.rows[r]? with
        | none => rw [h0] at hr'; cases hr'
        | some r0 =>
          rw [h0] at hr'
          cases hr'
          rw [List.getElem?_map] at hd
          cases h1 : r0[j]? with
          | none => rw [h1] at hd; cases hd
          | some d0 =>
            rw [h1] at hd
            cases hd
            obtain ⟨u, u1, u2, u3⟩ := k3.cell r j r0 d0 h0 h1
            obtain ⟨q, m1, m2⟩ := lookH_mem q1
            have ok0 := listB_iff (listB_iff (listB_iff c2 q m1) r0 (by rw [m2]; exact List.mem_of_getElem? h0)) d0 (List.mem_of_getElem? h1)
            exact ⟨u, u1, lendK_rel hRp (g1.trans g2) u2 ok0 b1, u3⟩
    · obtain ⟨e0, q1, q2, _, _, _⟩ := back i e hi hn
      obtain ⟨e0', q1', q2', _, _, _⟩ := back j e' hj hn'
      exact hRp.inj i j e0 e0' q1 q1' q2 q2' hij
    · obtain ⟨e0, q1, q2, _, _, q5⟩ := back i e hi hn
      exact x1.ids i e0 q5 q2
mutual
def D.owns : D → List Nm
  | .own i _ _ _ => [i]
  | .agg cs => ownsL cs
  | .tup cs => ownsL cs
  | .clo _ fs cs => ownsL fs ++ ownsL cs
  | _ => []
def ownsL : List D → List Nm
  | [] => []
  | d :: ds => d.owns ++ ownsL ds
end
end Go.Proofs.Ytadjhfjiimgddaa

/- Slices of one's own become plain data, also in the cells of boxes. -/
namespace Go.Proofs.Ytadjhfjiimgddaa
open Go
theorem hp_at (i : Nm) (e : En) (l : List (Nm × En)) (j : Nm) : hp ((i, e) :: l) j = if j = i then some e else hp l j := by rw [hp_cons]; rfl
theorem hp_no (j : Nm) : hp [] j = Option.none := rfl
theorem weak_restr {J : List Nm} {F : Fr} {H : Hp} (js : List Nm) (h2 : ∀ t, (F t).refsIn js = true) (h3 : ClosedH H js js) (h4 : ∀ i ∈ J, i ∈ js) : Weak J ⟨F, H⟩ ⟨F, H.restr js⟩ := by
  intro E hE Im p a w hR
  refine ⟨Im, p, hR.sz, fun t => (hR.fr t).restr (h2 t), hR.hp.restr h3, hR.en.restr js, ⟨hR.gr.im, hR.gr.blk, fun i e hi => ?_⟩, hR.df⟩
  dsimp only
  rw [restr_in (h4 i (hE i e hi))]
  exact hR.gr.ids i e hi
def frzP (ks : List Nm) (H : Hp) : Hp := fun i => (H.kills ks i).map (frzRows ks H)
theorem frzP_at (ks : List Nm) (H : Hp) (i : Nm) : frzP ks H i = (H.kills ks i).map (frzRows ks H) := rfl
theorem frzP_eq (ks : List Nm) (h : List (Nm × En)) : hp (frzH ks (hp h) (killsL h ks)) = frzP ks (hp h) := by
  funext i
  rw [frzP_at, ← killsL_eq]
  exact frzH_at ks (hp h) i _
theorem weak_fz {J : List Nm} (ks js : List Nm) {l l' : List (Nat × D)} {h : List (Nm × En)} {H' : Hp} (c1 : listB (fun q => okKd ks (hp h) q.2) l = true) (c2 : listB (fun q => listB (fun r => listB (okK ks (hp h)) r) q.2.rows) h = true) (c3 : frzF ks (hp h) l = l')
    (c4 : (frzP ks (hp h)).restr js = H') (c5 : refsF js l' = true) (c6 : ClosedH (frzP ks (hp h)) js js) (c7 : ∀ i ∈ J, i ∈ js) : Weak J ⟨fr l, hp h⟩ ⟨fr l', H'⟩ := by
  have w := freeze_weak J ks ⟨false, l, h⟩
  have e1 : (⟨false, l, h⟩ : SL).st = ⟨fr l, hp h⟩ := by simp only [SL.st, frB_fr]
  have e2 : (freeze ks ⟨false, l, h⟩).st = ⟨fr l', frzP ks (hp h)⟩ := by
    unfold freeze
    dsimp only
    rw [c1, c2]
    simp only [Bool.and_self, cond_true, SL.st, frB_fr, c3, frzP_eq]
  rw [e1, e2] at w
  refine w.trans ?_
  rw [← c4]
  exact weak_restr js (fun t => refsF_at c5 t) c6 c7
theorem listB_m {α β : Type} (p : β → Bool) (f : α → β) (h : ∀ x, p (f x) = true) : ∀ l : List α, listB p (l.map f) = true
  | [] => rfl
  | x :: l => by rw [List.map_cons, listB, h x, listB_m p f h l]; rfl
def rowV (r : List D) : Bool := r.all fun d => match d with | .v _ => true | .sl _ => true | _ => false
theorem rowV_ok {r : List D} (h : rowV r = true) (ks : List Nm) (H : Hp) : listB D.plain r = true ∧ listB (okK ks H) r = true ∧ r.map (lendK ks H) = r := by
  induction r with
  | nil => exact ⟨rfl, rfl, rfl⟩
  | cons d r ih =>
    unfold rowV at h
    rw [List.all_cons, Bool.and_eq_true] at h
    obtain ⟨a, b, c⟩ := ih h.2
    cases d with
    | v x => exact ⟨by rw [listB, a]; rfl, by rw [listB, b]; rfl, by rw [List.map_cons, c]; rfl⟩
    | sl x => exact ⟨by rw [listB, a]; rfl, by rw [listB, b]; rfl, by rw [List.map_cons, c]; rfl⟩
    | _ => cases h.1
theorem rows_pl {α : Type} (f : α → List D) (h : ∀ x, rowV (f x) = true) (l : List α) : listB (fun r => listB D.plain r) (l.map f) = true := listB_m _ _ (fun x => (rowV_ok (h x) [] Hp.none).1) l
theorem rows_ok {α : Type} (f : α → List D) (h : ∀ x, rowV (f x) = true) (ks : List Nm) (H : Hp) (l : List α) : listB (fun r => listB (okK ks H) r) (l.map f) = true := listB_m _ _ (fun x => (rowV_ok (h x) ks H).2.1) l
theorem frzRows_at (ks : List Nm) (H : Hp) (g sz : Nat) (rows : List (List D)) : frzRows ks H ⟨g, sz, rows⟩ = ⟨g, sz, rows.map fun r => r.map (lendK ks H)⟩ := rfl
def vz := And.intro @hp_at (And.intro @hp_no (And.intro @frzP_at @frzRows_at))
end Go.Proofs.Ytadjhfjiimgddaa

/- Small plain notions for walks over worlds: 'Only': no old block but one has changed; 'Kept': no old block has changed. No program in sight. -/
namespace Go.Proofs.Ytadjhfjiimgddaa
open Go.RowKit
abbrev Kept (w w' : World) : Prop := Below w.heap.size w w'
theorem Kept.refl (w : World) : Kept w w := Below.refl _ _
theorem Kept.trans {a b c : World} (h : Kept a b) (k : Kept b c) : Kept a c := Below.trans h (Below.mono k h.size)
theorem Kept.alloc {a w : World} (h : Kept a w) (o : Obj) : Kept a (w.alloc o) := Below.alloc h h.size o
theorem Kept.drew {a w : World} (h : Kept a w) : Kept a w.drew := Below.drew h
theorem Kept.setCell {a w : World} (h : Kept a w) {p : Addr} (hp : a.heap.size ≤ p.block) (u : Value) : Kept a (w.setCell p u) := Below.setCell h hp u
structure Only (bs : Nat) (w w' : World) : Prop where
  os : w'.os = w.os
  tape : w'.tape = w.tape
  output : w'.output = w.output
  size : w.heap.size ≤ w'.heap.size
  block : ∀ k, k < w.heap.size → k ≠ bs → w'.heap[k]? = w.heap[k]?
theorem Only.refl (bs : Nat) (w : World) : Only bs w w := ⟨rfl, rfl, rfl, Nat.le_refl _, fun _ _ _ => rfl⟩
theorem Only.trans {bs : Nat} {a b c : World} (h : Only bs a b) (k : Only bs b c) : Only bs a c :=
  ⟨k.os.trans h.os, k.tape.trans h.tape, k.output.trans h.output, Nat.le_trans h.size k.size, fun i hi hn => (k.block i (Nat.lt_of_lt_of_le hi h.size) hn).trans (h.block i hi hn)⟩
theorem Only.of_kept {bs : Nat} {w w' : World} (h : Kept w w') : Only bs w w' := ⟨h.os, h.tape, h.output, h.size, fun k hk _ => h.block k hk⟩
theorem Only.kept {bs : Nat} {a w w' : World} (h : Kept a w) (k : Only bs w w') (hb : a.heap.size ≤ bs) : Kept a w' :=
  ⟨k.os.trans h.os, k.tape.trans h.tape, k.output.trans h.output, Nat.le_trans h.size k.size, fun i hi => (k.block i (Nat.lt_of_lt_of_le hi h.size) (by omega)).trans (h.block i hi)⟩
theorem Only.alloc {bs : Nat} {a w : World} (h : Only bs a w) (o : Obj) : Only bs a (w.alloc o) := h.trans (.of_kept ((Kept.refl w).alloc o))
theorem Only.drew {bs : Nat} {a w : World} (h : Only bs a w) : Only bs a w.drew := ⟨h.os, h.tape, h.output, h.size, h.block⟩
theorem Only.setCell {bs : Nat} {a w : World} (h : Only bs a w) {p : Addr} (hp : p.block = bs ∨ a.heap.size ≤ p.block) (u : Value) : Only bs a (w.setCell p u) :=
  ⟨h.os, h.tape, h.output, by have := h.size; simpa [World.setCell] using this, fun k hk hn => by rw [Below.heap_setCell _ _ _ _ (by omega)]; exact h.block k hk hn⟩
def farCell (w : World) (b o : Nat) : Option Value := w.cell? ⟨b, o, none⟩
def farFree (w : World) (b o : Nat) : Bool := w.frozen? ⟨b, o, none⟩
theorem kcell {w w' : World} (hb : Kept w w') : (∀ b o, w'.cell? ⟨b, o, none⟩ = if b < w.heap.size then w.cell? ⟨b, o, none⟩ else farCell w' b o) ∧ (∀ b o, w'.frozen? ⟨b, o, none⟩ = if b < w.heap.size then w.frozen? ⟨b, o, none⟩ else farFree w' b o) :=
  ⟨fun b o => by split; · exact Below.cell hb (p := ⟨b, o, none⟩) ‹_›
                 · rfl,
   fun b o => by split; · exact Below.frozen hb (p := ⟨b, o, none⟩) ‹_›
                 · rfl⟩
theorem ocell {bs : Nat} {w w' : World} (hb : Only bs w w') : (∀ b o, w'.cell? ⟨b, o, none⟩ = if b < w.heap.size ∧ b ≠ bs then w.cell? ⟨b, o, none⟩ else farCell w' b o) ∧ (∀ b o, w'.frozen? ⟨b, o, none⟩ = if b < w.heap.size ∧ b ≠ bs then w.frozen? ⟨b, o, none⟩ else farFree w' b o) :=
  ⟨fun b o => by split; · exact World.cell?_of_block (w := w) (hb.block b (by omega) (by omega))
                 · rfl,
   fun b o => by split; · exact World.frozen?_of_block (w := w) (hb.block b (by omega) (by omega))
                 · rfl⟩
@[go_sem] theorem cell_alloc_ite (w : World) (c : Array Value) (t : TypeId) (fr : Nat × Nat) (n i : Nat) : (w.alloc (.cells c t fr)).cell? ⟨n, i, none⟩ = if n < w.heap.size then w.cell? ⟨n, i, none⟩ else if n = w.heap.size then c[i]? else farCell (w.alloc (.cells c t fr)) n i := by
  split
  · exact World.cell?_alloc_lt _ _ _ ‹_›
  split
  · subst n
    show (match (w.heap.push _)[w.heap.size]? with | some (.cells c _ _) => _ | _ => _) = _
    simp
  · rfl
@[go_sem] theorem free_alloc_ite (w : World) (c : Array Value) (t : TypeId) (n i : Nat) : (w.alloc (.cells c t)).frozen? ⟨n, i, none⟩ = if n < w.heap.size then w.frozen? ⟨n, i, none⟩ else if n = w.heap.size then false else farFree (w.alloc (.cells c t)) n i := by
  split
  · exact World.frozen?_alloc_past _ _ _ ‹_›
  split
  · exact World.frozen?_alloc_at _ _ _ _ ‹_›
  · rfl
@[go_sem] theorem cell_set_ite (w : World) (b o n i : Nat) (v : Value) : (w.setCell ⟨b, o, none⟩ v).cell? ⟨n, i, none⟩ = if b = n ∧ o = i then (w.cell? ⟨n, i, none⟩).map (fun _ => v) else w.cell? ⟨n, i, none⟩ := by
  split
  · obtain ⟨rfl, rfl⟩ := ‹_ ∧ _›
    cases hc : w.cell? ⟨b, o, none⟩ with
    | some u => exact World.cell?_setCell_same _ _ _ hc
    | none =>
      simp only [World.cell?, World.setCell, Array.getElem?_modify, if_pos] at hc ⊢
      cases hh : w.heap[b]? with
      | none => simp
      | some x =>
        rw [hh] at hc
        cases x <;> simp at hc ⊢
        omega
  · exact World.cell?_setCell_other _ _ _ _ (fun e => by injection e with e1 e2; exact (‹¬ (b = n ∧ o = i)› ⟨e1, e2⟩).elim)
theorem kcell1 {w w' : World} (hb : Kept w w') {b : Nat} (h : b < w.heap.size) (o : Nat) : w'.cell? ⟨b, o, none⟩ = w.cell? ⟨b, o, none⟩ := Below.cell hb (p := ⟨b, o, none⟩) h
theorem ocell1 {bs : Nat} {w w' : World} (hb : Only bs w w') {b : Nat} (h : b < w.heap.size) (hn : b ≠ bs) (o : Nat) : w'.cell? ⟨b, o, none⟩ = w.cell? ⟨b, o, none⟩ := World.cell?_of_block (w := w) (hb.block b h hn)
structure KW (w : World) where
  it : World
  kept : Kept w it
structure OW (bs : Nat) (w : World) where
  it : World
  only : Only bs w it
instance (w : World) : Nonempty (KW w) := ⟨⟨w, Kept.refl w⟩⟩
instance (bs : Nat) (w : World) : Nonempty (OW bs w) := ⟨⟨w, Only.refl bs w⟩⟩
@[go_sem] theorem kw_cell {w : World} (k : KW w) (b o : Nat) : k.it.cell? ⟨b, o, none⟩ = if b < w.heap.size then w.cell? ⟨b, o, none⟩ else farCell k.it b o := (kcell k.kept).1 b o
@[go_sem] theorem ow_cell {bs : Nat} {w : World} (k : OW bs w) (b o : Nat) : k.it.cell? ⟨b, o, none⟩ = if b < w.heap.size ∧ b ≠ bs then w.cell? ⟨b, o, none⟩ else farCell k.it b o := (ocell k.only).1 b o
theorem wp_region_kw {P : Program} {id : Nat} {Q : Exit → Act → World → Prop} {a : Act} {w : World} {l : List Oper} (hm : P.follows .mixedOrders = true) (hB : Region.lexB .any l.toArray = true)
    (h : wpQuiet P l.toArray (fun w' => ∃ k : KW w, w' = k.it) (fun a' => ∀ w', (∃ k : KW w, w' = k.it) → Q .normal a' w') l a) : (Code.region id l.toArray true).wp P Q a w :=
  wp_region_quiet (C := fun w' => ∃ k : KW w, w' = k.it) hm hB ⟨⟨w.drew, (Kept.refl w).drew⟩, rfl⟩ (by simpa using h)
def Ret (v : Value) (w : World) (e : Ending) (w' : World) : Prop := e = .returned v ∧ Kept w w'
theorem heap_new (w : World) (o : Obj) : (w.alloc o).heap[w.heap.size]? = some o := by
  show (w.heap.push o)[_]? = _
  simp
def Box (w : World) (b : Nat) (c : Array Value) : Prop := ∃ t, w.heap[b]? = some (.cells c t (0, 0))
theorem Box.cell {w : World} {b : Nat} {c : Array Value} (h : Box w b c) (i : Nat) : w.cell? ⟨b, i, none⟩ = c[i]? := by
  obtain ⟨t, h⟩ := h
  simp [World.cell?, h]
theorem Box.lt {w : World} {b : Nat} {c : Array Value} (h : Box w b c) : b < w.heap.size := by
  obtain ⟨t, h⟩ := h
  rcases Nat.lt_or_ge b w.heap.size with hl | hl
  · exact hl
  · rw [Array.getElem?_eq_none hl] at h; cases h
theorem Box.kept {w w' : World} {b : Nat} {c : Array Value} (h : Box w b c) (k : Kept w w') : Box w' b c := by
  have hl := h.lt
  obtain ⟨t, h⟩ := h
  exact ⟨t, by rw [k.block b hl]; exact h⟩
theorem Box.only {w w' : World} {b bs : Nat} {c : Array Value} (h : Box w b c) (k : Only bs w w') (hn : b ≠ bs) : Box w' b c := by
  have hl := h.lt
  obtain ⟨t, h⟩ := h
  exact ⟨t, by rw [k.block b hl hn]; exact h⟩
theorem Box.new {w : World} {b : Nat} {c : Array Value} {t : TypeId} (hb : b = w.heap.size) : Box (w.alloc (.cells c t)) b c := ⟨t, by subst hb; exact heap_new w _⟩
theorem Box.old {w : World} {b : Nat} {c : Array Value} (h : Box w b c) (o : Obj) : Box (w.alloc o) b c := h.kept ((Kept.refl w).alloc o)
theorem Box.drew {w : World} {b : Nat} {c : Array Value} (h : Box w b c) : Box w.drew b c := h
theorem Box.set {w : World} {b i : Nat} {c c' : Array Value} {v : Value} (h : Box w b c) (hc : c' = c.setIfInBounds i v) : Box (w.setCell ⟨b, i, none⟩ v) b c' := by
  obtain ⟨t, h⟩ := h
  refine ⟨t, ?_⟩
  subst hc
  simp [World.setCell, Array.getElem?_modify, h]
theorem Box.other {w : World} {b : Nat} {c : Array Value} {p : Addr} {v : Value} (h : Box w b c) (hn : b ≠ p.block) : Box (w.setCell p v) b c := by
  obtain ⟨t, h⟩ := h
  exact ⟨t, by rw [Below.heap_setCell _ _ _ _ hn]; exact h⟩
def I64 (n : Int) : Prop := -9223372036854775808 ≤ n ∧ n ≤ 9223372036854775807
def IsSrc (base : Nat) (w : World) (bs : Nat) : Prop :=
  ∃ (a : Option Addr) (len cap at' : Nat) (t : TypeId), base ≤ bs ∧ bs < w.heap.size ∧ len ≤ 2000 ∧ at' ≤ len ∧
    w.heap[bs]? = some (.cells #[.slice a len cap, .int .i64 at'] t (0, 0)) ∧
    (0 < len → ∃ b o, a = some ⟨b, o, none⟩ ∧ b < base ∧ ∀ i, i < len → ∃ n : Int, I64 n ∧ w.cell? ⟨b, o + i, none⟩ = some (.int .i64 n))
theorem IsSrc.lt {base : Nat} {w : World} {bs : Nat} (h : IsSrc base w bs) : base ≤ bs ∧ bs < w.heap.size := by
  obtain ⟨a, len, cap, at', t, h1, h2, _⟩ := h
  exact ⟨h1, h2⟩
theorem IsSrc.keep {base : Nat} {w w' : World} {bs : Nat} (h : IsSrc base w bs) (hs : w.heap.size ≤ w'.heap.size) (hb : w'.heap[bs]? = w.heap[bs]?) (hl : ∀ k, k < base → w'.heap[k]? = w.heap[k]?) : IsSrc base w' bs := by
  obtain ⟨a, len, cap, at', t, h1, h2, h3, h4, h5, h6⟩ := h
  refine ⟨a, len, cap, at', t, h1, by omega, h3, h4, by rw [hb]; exact h5, fun hp => ?_⟩
  obtain ⟨b, o, e, hbb, hc⟩ := h6 hp
  refine ⟨b, o, e, hbb, fun i hi => ?_⟩
  obtain ⟨n, hn, hcell⟩ := hc i hi
  exact ⟨n, hn, by rw [World.cell?_of_block (w := w) (hl b hbb)]; exact hcell⟩
theorem IsSrc.kept {base : Nat} {w w' : World} {bs : Nat} (h : IsSrc base w bs) (k : Kept w w') : IsSrc base w' bs :=
  h.keep k.size (k.block _ h.lt.2) (fun i hi => k.block i (by have := h.lt; omega))
theorem IsSrc.only {base : Nat} {w w' : World} {bs b2 : Nat} (h : IsSrc base w bs) (k : Only b2 w w') (hn : b2 ≠ bs) (hb : base ≤ b2) : IsSrc base w' bs :=
  h.keep k.size (k.block _ h.lt.2 (Ne.symm hn)) (fun i hi => k.block i (by have := h.lt; omega) (by omega))
theorem IsSrc.heap {base : Nat} {w w' : World} {bs : Nat} (h : IsSrc base w bs) (e : w'.heap = w.heap) : IsSrc base w' bs :=
  h.keep (by rw [e]; exact Nat.le_refl _) (by rw [e]) (fun k _ => by rw [e])
theorem IsSrc.alloc {base : Nat} {w : World} {bs : Nat} (h : IsSrc base w bs) (o : Obj) : IsSrc base (w.alloc o) bs := h.kept ((Kept.refl w).alloc o)
theorem IsSrc.drew {base : Nat} {w : World} {bs : Nat} (h : IsSrc base w bs) : IsSrc base w.drew bs := h.kept (Kept.refl w).drew
theorem IsSrc.setCell {base : Nat} {w : World} {bs : Nat} (h : IsSrc base w bs) {p : Addr} (hn : p.block ≠ bs) (hp : base ≤ p.block) (u : Value) : IsSrc base (w.setCell p u) bs :=
  h.keep (by simp [World.setCell]) (Below.heap_setCell _ _ _ _ (by omega)) (fun k hk => Below.heap_setCell _ _ _ _ (by omega))
end Go.Proofs.Ytadjhfjiimgddaa
