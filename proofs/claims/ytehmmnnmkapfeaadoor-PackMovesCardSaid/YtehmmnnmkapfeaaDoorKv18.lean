/- PackMoves: Pl5 Nw FlQ Hints AwF FlP FaW Pk6 Pk7 CodePQ PkD. -/
import Derived.Test.YtehmmnnmkapfeaaDoorKv15
import Derived.Test.YtehmmnnmkapfeaaDoorKv8
import Derived.Test.YtehmmnnmkapfeaaDoorKv14
import Derived.Test.YtehmmnnmkapfeaaDoorKv13
import Derived.Test.YtehmmnnmkapfeaaDoorKv12
import Derived.Test.YtehmmnnmkapfeaaDoorKv4
import Derived.Test.YtehmmnnmkapfeaaDoorKv17
import Derived.Test.YtehmmnnmkapfeaaDoorKv3
import Derived.Test.YtehmmnnmkapfeaaDoorProg
import Derived.Test.YtehmmnnmkapfeaaDoorKv16
set_option linter.unusedSimpArgs false
set_option linter.unusedVariables false
set_option maxRecDepth 100000

/- Plans out of a source: the way that is laid. -/
/- Plans out of a source: the way that is laid. -/
namespace Go.Proofs.YtehmmnnmkapfeaaDoor
open Go
theorem minC_b {c : Int} : minC c ≤ 1000 := by unfold minC; split <;> omega
theorem pr_b {n : Net} {R : List Int} (h : PR n R) : ∀ r ∈ R, -1000 ≤ r ∧ r ≤ 1000 := fun r hr => by
 obtain ⟨k, hk⟩ := List.getElem?_of_mem hr
 have hl : k < R.length := by
  rcases Nat.lt_or_ge k R.length with h | h
  ·exact h
  ·rw [List.getElem?_eq_none h] at hk; cases hk
 have hl2 : k < n.segs.length := by have := h.rl; omega
 have hx : (n.segs[k], r) ∈ n.segs.zip R := zip_of (List.getElem?_eq_getElem hl2) hk
 have := h.rb _ hx
 unfold RateIn at this
 have := @minC_b n.segs[k].cap
 dsimp only at *
 omega
theorem bump_len (n : Net) (rate : Int) (R : List Int) (k : Nat) : (bump n rate R k).length = R.length := by unfold bump; rw [List.length_set]
theorem bumps_len (n : Net) (rate : Int) : ∀ (W : List Nat) (R : List Int), (W.foldl (bump n rate) R).length = R.length
 | [], R => rfl
 | k :: W, R => by rw [List.foldl_cons, bumps_len n rate W, bump_len]
theorem nRow_at (W : List Nat) (j : Nat) (h : j < W.length) : (W.map nRow).getD j [] = [di (W[j] : Nat)] := by rw [getD_map nRow W j h]; rfl
theorem iRow_set (R : List Int) (k : Nat) (x : Int) : (R.map iRow).set k [di x] = (R.set k x).map iRow := (List.map_set ..).symm
theorem fold_take {α β : Type} (f : β → α → β) (b : β) (W : List α) (j : Nat) (h : j < W.length) : (W.take (j + 1)).foldl f b = f ((W.take j).foldl f b) W[j] := by
 rw [← List.take_append_getElem h, List.foldl_append]; rfl
set_option maxHeartbeats 16000000 in
theorem pl6 (i : Nm) (L : List (List D)) (n : Net) (hv : NetV n) (g : Nat) (R Q : List Int) (U : List Bool) (tu : Bool) (c rate : Int) (W : List Nat) (hPR : PR n R) (hroom : ∀ k ∈ W, Room n rate R k) (hnd : W.Nodup) (hr : 1 ≤ rate ∧ rate ≤ 300) (hWl : W.length ≤ 1000000)
  (s : St) (Qx : Ex → St → Prop) (at1 : Int) (hw : Weak [i] s ⟨fr (PF i tu c [(11, di rate), (239, .sl (W.map nRow)), (240, di W.length), (241, di 0)]), PH i n g R Q U L at1 Hp.none⟩)
  (hX : ∀ F, PFk i tu c F → Qx (.exit 10) ⟨F, PH i n g (W.foldl (bump n rate) R) Q U L at1 Hp.none⟩) :
  vc TPl (fun t => (i.1 + 1, t)) [i] (.loop c48_17) Qx s := by
 have hsl := hv.sl
 have pre : ∀ j, PR n ((W.take j).foldl (bump n rate) R) := fun j => (bump_all hr.1 (W.take j) hPR (hnd.sublist (List.take_sublist j W)) fun k hk => hroom k (List.mem_of_mem_take hk)).1
 refine rng_loop W.length (fun j => ⟨fr (PF i tu c [(11, di rate), (239, .sl (W.map nRow)), (240, di W.length), (241, di (j : Nat))]), PH i n g ((W.take j).foldl (bump n rate) R) Q U L at1 Hp.none⟩) (fun _ => True) hw trivial (fun j hj _ => ?_) (fun _ => ?_)
 ·have hj' : (j : Int) < W.length := by omega
  have hjn := idx_nn j
  have w1 := idx_next (j := j) (by omega)
  have hgW := nRow_at W j hj
  have hf := fold_take (bump n rate) R W j hj
  have hP := pre j
  have hRl : ((W.take j).foldl (bump n rate) R).length = n.segs.length := hP.rl
  have hrm := hroom _ (List.getElem_mem hj)
  generalize W[j] = k at hgW hf hrm
  obtain ⟨x, _, hx, _, _, _⟩ := hrm
  have hk : k < n.segs.length := by
   rcases Nat.lt_or_ge k n.segs.length with h | h
   ·exact h
   ·rw [List.getElem?_eq_none h] at hx; cases hx
  have hg := getD_map Seg.row n.segs k hk
  have hx2 : n.segs[k] = x := by rw [List.getElem?_eq_getElem hk] at hx; cases hx; rfl
  rw [hx2] at hg
  generalize hRj : (W.take j).foldl (bump n rate) R = Rj at *
  have hkR : k < Rj.length := by omega
  have hg2 := iRow_at Rj k hkR
  have hb := pr_b hP _ (List.getElem_mem hkR)
  have hgd : Rj.getD k 0 = Rj[k] := by rw [List.getD_eq_getElem?_getD, List.getElem?_eq_getElem hkR]; rfl
  have hk0 := idx_nn k
  have hk1 : (k : Int) < n.segs.length := by omega
  have hk2 : (k : Int) < Rj.length := by omega
  have hsd : segD n rate k = (x.fr, x.to, if x.fr < x.to then rate else -rate) := by unfold segD; rw [hx]
  have hbp : bump n rate Rj k = Rj.set k (Rj[k] + if x.fr < x.to then rate else -rate) := by unfold bump; rw [hgd, hsd]
  rw [hbp] at hf
  generalize Rj[k] = r at hg2 hb hf
  have w2 : IntKind.i64.wrap (r + rate) = r + rate := wrap_i (by omega)
  have w3 : IntKind.i64.wrap (r - rate) = r - rate := wrap_i (by omega)
  have hls : ∀ y, (Rj.set k y).length = Rj.length := fun y => List.length_set
  by_cases c1 : x.fr < x.to
  ·rw [if_pos c1] at hf
   simp (maxSteps:=500000) only [↓vp, vv, ↓reduceIte, simprocAttr, c48_17, c48_16, c48_15, TPl, PF, PH, netD, hj', hjn, hk, hk0, hk1, hk2, hkR, Int.toNat_natCast, hgW, hg, hg2, Seg.row, c1, w1, w2, iRow_set]
   exact rng_next hj (weak_eqA [] [i, (i.1 + 1, 3), (i.1 + 1, 4), (i.1 + 1, 5), (i.1 + 1, 25), (i.1 + 1, 29), (i.1 + 1, 1005)] (PF i tu c [(11, di rate), (239, .sl (W.map nRow)), (240, di W.length), (241, di (j + 1 : Nat))]) (by refine ⟨?_, ?_, ?_, by simp, ?_⟩ <;> (simp only [↓vp, vv, ↓reduceIte, simprocAttr, coverS, refsF, PF, PH, netD, iRow, bRow, w1, hf, hls] <;> try rfl))) trivial
  ·rw [if_neg c1] at hf
   have hf2 : r + -rate = r - rate := by omega
   rw [hf2] at hf
   simp (maxSteps:=500000) only [↓vp, vv, ↓reduceIte, simprocAttr, c48_17, c48_16, c48_15, TPl, PF, PH, netD, hj', hjn, hk, hk0, hk1, hk2, hkR, Int.toNat_natCast, hgW, hg, hg2, Seg.row, c1, w1, w3, iRow_set]
   exact rng_next hj (weak_eqA [] [i, (i.1 + 1, 3), (i.1 + 1, 4), (i.1 + 1, 5), (i.1 + 1, 25), (i.1 + 1, 29), (i.1 + 1, 1005)] (PF i tu c [(11, di rate), (239, .sl (W.map nRow)), (240, di W.length), (241, di (j + 1 : Nat))]) (by refine ⟨?_, ?_, ?_, by simp, ?_⟩ <;> (simp only [↓vp, vv, ↓reduceIte, simprocAttr, coverS, refsF, PF, PH, netD, iRow, bRow, w1, hf, hls] <;> try rfl))) trivial
 ·rw [List.take_length]
  simp (maxSteps:=500000) only [↓vp, vv, ↓reduceIte, simprocAttr, c48_17, PF, Int.lt_irrefl]
  refine hX _ ⟨?_, ?_, ?_, ?_, ?_, ?_⟩ <;> simp (maxSteps:=500000) only [↓vp, vv, ↓reduceIte, simprocAttr, ]
set_option maxHeartbeats 16000000 in
theorem pl3 (i : Nm) (L : List (List D)) (n : Net) (hv : NetV n) (g : Nat) (R Q : List Int) (U : List Bool) (tu : Bool) (c a a0 rate : Int) (hPR : PR n R) (hQl : Q.length = n.ports.length) (hQb : ∀ r ∈ Q, -1000 ≤ r ∧ r ≤ 1000) (hr : 1 ≤ rate ∧ rate ≤ 300) (h0 : 0 ≤ a0 ∧ a0 < n.nodes.length)
  (s : St) (Qx : Ex → St → Prop) (at1 : Int) (o1 : SrcOk L at1) (hw : Weak [i] s ⟨fr (PF i tu c [(9, di a), (10, di a0), (11, di rate), (12, .own (i.1 + 1, 1012) 0 0 0), (13, di (-1))]), PH i n g R Q U L at1 (BW i 0 [])⟩)
  (hX : ∀ F B at2 W gw e at0, SrcOk L at2 → Way n R rate a0 at0 W → W.length ≤ 24 → (e = -1 ∨ EndOk n Q a rate at0 e) → PFk i tu c F → PFw a at0 rate i gw W e F → B (i.1 + 1, 1012) = some ⟨gw, 1, W.map nRow⟩ → Qx (.exit 4) ⟨F, PH i n g R Q U L at2 B⟩) :
  vc TPl (fun t => (i.1 + 1, t)) [i] (.loop c48_14) Qx s := by
 have hnl := hv.nl
 have hql := hv.ql
 rw [vc_loop]
 refine ⟨fun m s => ∃ at' W gw at0, SrcOk L at' ∧ Way n R rate a0 at0 W ∧ (0 ≤ at0 ∧ at0 < n.nodes.length) ∧ at0 + m = n.nodes.length ∧ W.length + m ≤ 24 ∧ s = ⟨fr (PF i tu c [(9, di a), (10, di at0), (11, di rate), (12, .own (i.1 + 1, 1012) gw 0 W.length), (13, di (-1))]), PH i n g R Q U L at' (BW i gw W)⟩, ⟨(n.nodes.length - a0).toNat, _, hw, at1, [], 0, a0, o1, Way.nil n R rate a0, h0, by omega, by simp; omega, rfl⟩, ?_⟩
 rintro m s ⟨at2, W, gw, at0, o2, hW, hat, hm, hWl, rfl⟩
 simp (maxSteps:=500000) only [↓vp, vv, ↓reduceIte, simprocAttr, c48_14, c48_13, TPl, PF, PH, BW, netD]
 refine pl4 i L n g R Q U tu c a at0 rate gw W (by omega) hQl hQb hr _ _ at2 o2 (weak_eqA [] [i, (i.1 + 1, 3), (i.1 + 1, 4), (i.1 + 1, 5), (i.1 + 1, 25), (i.1 + 1, 29), (i.1 + 1, 1005), (i.1 + 1, 1012)] (PF i tu c [(9, di a), (10, di at0), (11, di rate), (12, .own (i.1 + 1, 1012) gw 0 W.length), (13, di (-1)), (90, .sl (n.ports.map Port.row)), (91, di n.ports.length), (92, di 0)]) (by refine ⟨?_, ?_, ?_, by simp, ?_⟩ <;> (simp only [↓vp, vv, ↓reduceIte, simprocAttr, coverS, refsF, PF, PH, BW, netD, iRow, bRow, nRow] <;> try rfl))) ?_
 rintro F at3 e o3 he hF hFw
 obtain ⟨f0, f3, f4, f5, f7, f8⟩ := hF
 obtain ⟨f9, f10, f11, f12, f13⟩ := hFw
 rcases he with he | he
 ·subst he
  simp (maxSteps:=500000) only [↓vp, vv, ↓reduceIte, simprocAttr, c48_12, c48_11, TPl, PF, PH, BW, netD, f0, f3, f4, f5, f7, f8, f9, f10, f11, f12, f13]
  refine pl5 i L n hv g R Q U tu c a at0 rate gw W hPR.rl (pr_b hPR) hr (by omega) _ _ at3 ((weak_own 16 (i.1 + 1, 1016) 1 (by simp only [↓vp, vv, ↓reduceIte, simprocAttr, ]) (by simp only [↓vp, vv, ↓reduceIte, simprocAttr, PH, BW])).trans (weak_eqA [] [i, (i.1 + 1, 3), (i.1 + 1, 4), (i.1 + 1, 5), (i.1 + 1, 25), (i.1 + 1, 29), (i.1 + 1, 1005), (i.1 + 1, 1012), (i.1 + 1, 1016)] (PF i tu c [(9, di a), (10, di at0), (11, di rate), (12, .own (i.1 + 1, 1012) gw 0 W.length), (13, di (-1)), (16, .own (i.1 + 1, 1016) 0 0 0), (139, .sl (n.segs.map Seg.row)), (140, di n.segs.length), (141, di 0)]) (by refine ⟨?_, ?_, ?_, by simp, ?_⟩ <;> (simp only [↓vp, vv, ↓reduceIte, simprocAttr, coverS, refsF, PF, PH, BW, BO, netD, iRow, bRow, nRow, f0, f3, f4, f5, f7, f8, f9, f10, f11, f12, f13] <;> try rfl)))) ?_
  rintro F2 O go hO hOl hF hFw f16
  obtain ⟨f0, f3, f4, f5, f7, f8⟩ := hF
  obtain ⟨f9, f10, f11, f12, f13⟩ := hFw
  cases c1 : ((O.length : Int) == 0) with
  | true =>
   simp (maxSteps:=500000) only [↓vp, vv, ↓reduceIte, simprocAttr, c48_10, TPl, PF, netD, f0, f3, f4, f5, f7, f8, f9, f10, f11, f12, f13, f16, c1]
   refine hX _ _ at3 W gw (-1) at0 o3 hW (by omega) (.inl rfl) ⟨?_, ?_, ?_, ?_, ?_, ?_⟩ ⟨?_, ?_, ?_, ?_, ?_⟩ ?_ <;> simp (maxSteps:=500000) only [↓vp, vv, ↓reduceIte, simprocAttr, BO, f0, f3, f4, f5, f7, f8, f9, f10, f11, f12, f13]
  | false =>
   have hOp : 1 ≤ O.length := by
    have : ¬ (O.length : Int) = 0 := by simpa using c1
    omega
   have b1 := idx_nn O.length
   have b2 : -9223372036854775808 ≤ (O.length : Int) := by omega
   have b3 : (O.length : Int) ≤ 9223372036854775807 := by omega
   simp (maxSteps:=500000) only [↓vp, vv, ↓reduceIte, simprocAttr, c48_10, c48_9, TPl, T2, T1, selI, PF, PH, BO, netD, f0, f3, f4, f5, f7, f8, f9, f10, f11, f12, f13, f16, c1, o3, b2, b3]
   rintro ⟨at4, o4⟩ x ⟨hx0, hx1, _⟩
   have hx2 := hx1 (by omega)
   obtain ⟨xn, rfl⟩ : ∃ xn : Nat, x = xn := ⟨x.toNat, by omega⟩
   have hxn : xn < O.length := by omega
   have hgO := nRow_at O xn hxn
   obtain ⟨sg, r, hs, hR, hea, hup, hroom⟩ := hO _ (List.getElem_mem hxn)
   generalize O[xn] = k at hgO hs hR
   have hk : k < n.segs.length := by
    rcases Nat.lt_or_ge k n.segs.length with h | h
    ·exact h
    ·rw [List.getElem?_eq_none h] at hs; cases hs
   have hg := getD_map Seg.row n.segs k hk
   have hx2' : n.segs[k] = sg := by rw [List.getElem?_eq_getElem hk] at hs; cases hs; rfl
   have hse := hv.se _ (List.getElem_mem hk)
   rw [hx2'] at hg hse
   have hk0 := idx_nn k
   have hk1 : (k : Int) < n.segs.length := by omega
   have w2 : IntKind.i64.wrap (sg.fr + sg.to) = sg.fr + sg.to := wrap_i (by omega)
   have w3 : IntKind.i64.wrap (sg.fr + sg.to - at0) = sg.fr + sg.to - at0 := wrap_i (by omega)
   have y1 : (W.length + 1) * 8 ≤ 140737488355328 := by omega
   have y2 : W.length + 1 ≤ 4611686018427387904 := by omega
   have hW2 := hW.add hs hR hea hup hroom
   simp (maxSteps:=500000) only [↓vp, vv, ↓reduceIte, simprocAttr, f0, f3, f4, f5, f7, f8, f9, f10, f11, f12, f13, f16, netD, hx0, hx2, hxn, hgO, hg, Seg.row, hk, hk0, hk1, Int.toNat_natCast, w2, w3, y1, y2]
   refine ⟨(n.nodes.length - (sg.fr + sg.to - at0)).toNat, _, by omega, (weak_eqA [] [i, (i.1 + 1, 3), (i.1 + 1, 4), (i.1 + 1, 5), (i.1 + 1, 25), (i.1 + 1, 29), (i.1 + 1, 1005), (i.1 + 1, 1012)] (PF i tu c [(9, di a), (10, di (sg.fr + sg.to - at0)), (11, di rate), (12, .own (i.1 + 1, 1012) (gw + 1) 0 (W.length + 1)), (13, di (-1))]) (by refine ⟨?_, ?_, ?_, by simp, ?_⟩ <;> (simp only [↓vp, vv, ↓reduceIte, simprocAttr, coverS, refsF, PF, PH, BW, netD, iRow, bRow, nRow, f0, f3, f4, f5, f7, f8, f9, f10, f11, f12, f13, w3] <;> try rfl))), at4, W ++ [k], gw + 1, sg.fr + sg.to - at0, o4, hW2, by omega, by omega, by rw [List.length_append, List.length_singleton]; omega, ?_⟩
   simp only [PF, PH, BW, List.map_append, List.map_cons, List.map_nil, nRow, List.length_append, List.length_singleton]
 ·obtain ⟨k, y, q, rfl, _⟩ := he.2
  have hk0 := idx_nn k
  simp (maxSteps:=500000) only [↓vp, vv, ↓reduceIte, simprocAttr, c48_12, TPl, PF, netD, f0, f3, f4, f5, f7, f8, f9, f10, f11, f12, f13, hk0]
  refine hX _ _ at3 W gw k at0 o3 hW (by omega) (.inr he) ⟨?_, ?_, ?_, ?_, ?_, ?_⟩ ⟨?_, ?_, ?_, ?_, ?_⟩ ?_ <;> simp (maxSteps:=500000) only [↓vp, vv, ↓reduceIte, simprocAttr, BW, f0, f3, f4, f5, f7, f8, f9, f10, f11, f12, f13]
set_option maxHeartbeats 16000000 in
theorem pl2 (i : Nm) (L : List (List D)) (n : Net) (hv : NetV n) (hp1 : 1 ≤ n.ports.length) (g : Nat) (R Q : List Int) (U : List Bool) (tu : Bool) (c : Nat) (hPG : PG n R Q) (hc : c ≤ 1000)
  (s : St) (Qx : Ex → St → Prop) (at1 : Int) (o1 : SrcOk L at1) (hw : Weak [i] s ⟨fr (PF i tu c []), PH i n g R Q U L at1 Hp.none⟩)
  (hX : ∀ F at2 R Q, SrcOk L at2 → PG n R Q → F 0 = .ptr i 0 0 0 → F 4 = .ptr (i.1 + 1, 4) 0 0 0 → F 5 = .ptr (i.1 + 1, 5) 0 0 0 → F 7 = db tu → Qx (.exit 2) ⟨F, PH i n g R Q U L at2 Hp.none⟩) :
  vc TPl (fun t => (i.1 + 1, t)) [i] (.loop c48_23) Qx s := by
 have hnl := hv.nl
 have hql := hv.ql
 rw [vc_loop]
 refine ⟨fun m s => ∃ at' R Q, SrcOk L at' ∧ PG n R Q ∧ m ≤ c ∧ s = ⟨fr (PF i tu m []), PH i n g R Q U L at' Hp.none⟩, ⟨c, _, hw, at1, R, Q, o1, hPG, Nat.le_refl _, rfl⟩, ?_⟩
 rintro m s ⟨at2, R, Q, o2, hG, hmc, rfl⟩
 have nx : 0 < m → ∀ (at3 : Int) (R Q : List Int) (F : Fr) (H : Hp), SrcOk L at3 → PG n R Q → F 0 = .ptr i 0 0 0 → F 3 = .ptr (i.1 + 1, 3) 0 0 0 → F 4 = .ptr (i.1 + 1, 4) 0 0 0 → F 5 = .ptr (i.1 + 1, 5) 0 0 0 → F 7 = db tu → F 8 = di (m - 1 : Nat) →
    H i = some (sE L at3) → H (i.1 + 1, 3) = some ⟨0, 6, [netD n]⟩ → H (i.1 + 1, 4) = some ⟨0, 3, [[.mt, .mt, .mt]]⟩ → H (i.1 + 1, 5) = some ⟨0, 3, [[.own (i.1 + 1, 25) 0 0 R.length, .own (i.1 + 1, 29) 0 0 Q.length, .own (i.1 + 1, 1005) g 0 U.length]]⟩ → H (i.1 + 1, 25) = some ⟨0, 1, R.map iRow⟩ → H (i.1 + 1, 29) = some ⟨0, 1, Q.map iRow⟩ → H (i.1 + 1, 1005) = some ⟨g, 1, U.map bRow⟩ →
    ∃ k' s', k' < m ∧ Weak [i] ⟨F, H⟩ s' ∧ ∃ at' R Q, SrcOk L at' ∧ PG n R Q ∧ k' ≤ c ∧ s' = ⟨fr (PF i tu k' []), PH i n g R Q U L at' Hp.none⟩ := by
  rintro hm at3 R Q F H o3 hG f0 f3 f4 f5 f7 f8 h0 h3 h4 h5 h25 h29 h105
  exact ⟨m - 1, _, by omega, (weak_eqA [] [i, (i.1 + 1, 3), (i.1 + 1, 4), (i.1 + 1, 5), (i.1 + 1, 25), (i.1 + 1, 29), (i.1 + 1, 1005)] (PF i tu (m - 1 : Nat) []) (by refine ⟨?_, ?_, ?_, by simp, ?_⟩ <;> (simp only [↓vp, vv, ↓reduceIte, simprocAttr, coverS, refsF, PF, PH, netD, iRow, bRow, f0, f3, f4, f5, f7, f8, h0, h3, h4, h5, h25, h29, h105] <;> try rfl))), at3, R, Q, o3, hG, by omega, rfl⟩
 by_cases hm : 0 < m
 ·have hm' : (0 : Int) < m := by omega
  have wm : IntKind.i64.wrap ((m : Int) - 1) = ((m - 1 : Nat) : Int) := by rw [wrap_i (by omega)]; omega
  have b2 : -9223372036854775808 ≤ (n.ports.length : Int) := by omega
  have b3 : (n.ports.length : Int) ≤ 9223372036854775807 := by omega
  simp (maxSteps:=500000) only [↓vp, vv, ↓reduceIte, simprocAttr, c48_23, c48_22, c48_21, TPl, T2, T1, selI, selPick, selRange, PF, PH, netD, hm', wm, o2, b2, b3]
  rintro ⟨at3, o3⟩ av ⟨ha0, ha1, _⟩
  have ha2 := ha1 (by omega)
  obtain ⟨a, rfl⟩ : ∃ a : Nat, av = a := ⟨av.toNat, by omega⟩
  have haq : a < n.ports.length := by omega
  have haQ : a < Q.length := by have := hG.ql; omega
  have haQ' : (a : Int) < Q.length := by omega
  have hg := getD_map Port.row n.ports a haq
  have hg2 := iRow_at Q a haQ
  have hx : n.ports[a]? = some n.ports[a] := List.getElem?_eq_getElem haq
  have hy : Q[a]? = some Q[a] := List.getElem?_eq_getElem haQ
  have hb := hG.qb _ (List.getElem_mem haQ)
  have hpe := hv.pe _ (List.getElem_mem haq)
  generalize n.ports[a] = x at hg hx hpe
  generalize Q[a] = qa at hg2 hy hb
  simp (maxSteps:=500000) only [↓vp, vv, ↓reduceIte, simprocAttr, ha0, ha2, haq, haQ, haQ', hg, hg2, Port.row, Int.toNat_natCast, netD, o3]
  rintro ⟨at4, o4⟩ pk hpk
  simp [IsMem] at hpk
  refine ⟨⟨⟨by omega, by omega⟩, by omega, by omega⟩, ?_⟩
  rintro ⟨at5, o5⟩ rate hrt
  unfold RPost at hrt
  have hr : 1 ≤ rate ∧ rate ≤ 300 := by omega
  have w4 : IntKind.i64.wrap (qa + rate) = qa + rate := wrap_i (by omega)
  cases c1 : decide (qa < 0) with
  | true =>
   have c1' : qa < 0 := by simpa using c1
   simp (maxSteps:=500000) only [↓vp, vv, ↓reduceIte, simprocAttr, c1, c1', netD, wm]
   refine nx hm at5 R Q _ _ o5 hG ?_ ?_ ?_ ?_ ?_ ?_ ?_ ?_ ?_ ?_ ?_ ?_ ?_ <;> simp (maxSteps:=500000) only [↓vp, vv, ↓reduceIte, simprocAttr, netD, wm]
  | false =>
  have c1' : ¬ qa < 0 := by simpa using c1
  cases c2 : decide (1000 < qa + rate) with
  | true =>
   simp (maxSteps:=500000) only [↓vp, vv, ↓reduceIte, simprocAttr, c1, c1', w4, c2, netD, wm]
   refine nx hm at5 R Q _ _ o5 hG ?_ ?_ ?_ ?_ ?_ ?_ ?_ ?_ ?_ ?_ ?_ ?_ ?_ <;> simp (maxSteps:=500000) only [↓vp, vv, ↓reduceIte, simprocAttr, netD, wm]
  | false =>
  have c2' : ¬ 1000 < qa + rate := by simpa using c2
  simp (maxSteps:=500000) only [↓vp, vv, ↓reduceIte, simprocAttr, c1, c1', w4, c2, netD, wm, c48_20]
  refine pl3 i L n hv g R Q U tu m a x.node rate hG.pr hG.ql hG.qb hr hpe _ _ at5 o5 ((weak_own 12 (i.1 + 1, 1012) 1 (by simp only [↓vp, vv, ↓reduceIte, simprocAttr, ]) (by simp only [↓vp, vv, ↓reduceIte, simprocAttr, ])).trans (weak_eqA [] [i, (i.1 + 1, 3), (i.1 + 1, 4), (i.1 + 1, 5), (i.1 + 1, 25), (i.1 + 1, 29), (i.1 + 1, 1005), (i.1 + 1, 1012)] (PF i tu m [(9, di a), (10, di x.node), (11, di rate), (12, .own (i.1 + 1, 1012) 0 0 0), (13, di (-1))]) (by refine ⟨?_, ?_, ?_, by simp, ?_⟩ <;> (simp only [↓vp, vv, ↓reduceIte, simprocAttr, coverS, refsF, PF, PH, BW, netD, iRow, bRow] <;> try rfl)))) ?_
  rintro F B at6 W gw e at' o6 hW hWl he hF hFw hB
  obtain ⟨f0, f3, f4, f5, f7, f8⟩ := hF
  obtain ⟨f9, f10, f11, f12, f13⟩ := hFw
  rcases he with rfl | he
  ·simp (maxSteps:=500000) only [↓vp, vv, ↓reduceIte, simprocAttr, c48_19, TPl, PF, PH, netD, f0, f3, f4, f5, f7, f8, f9, f10, f11, f12, f13, wm]
   refine nx hm at6 R Q _ _ o6 hG ?_ ?_ ?_ ?_ ?_ ?_ ?_ ?_ ?_ ?_ ?_ ?_ ?_ <;> simp (maxSteps:=500000) only [↓vp, vv, ↓reduceIte, simprocAttr, netD, wm, f0, f3, f4, f5, f7, f8]
  ·obtain ⟨hne, k, y, qe, rfl, hk1, hk2, hk3, hk4, hk5⟩ := he
   have hkQ : k < Q.length := by
    rcases Nat.lt_or_ge k Q.length with h | h
    ·exact h
    ·rw [List.getElem?_eq_none h] at hk2; cases hk2
   have hkQ' : (k : Int) < Q.length := by omega
   have hk0 := idx_nn k
   have hk6 : ¬ (k : Int) < 0 := by omega
   have ha0' := idx_nn a
   have hQk : Q[k] = qe := by rw [List.getElem?_eq_getElem hkQ] at hk2; cases hk2; rfl
   have hg3 := iRow_at Q k hkQ
   rw [hQk] at hg3
   have hqe := hG.qb qe (List.mem_of_getElem? hk2)
   have w5 : IntKind.i64.wrap (qe - rate) = qe - rate := wrap_i (by omega)
   have hnek : a ≠ k := fun h => hne (by rw [h])
   have hG2 := pg_step hG hW hr.1 hx hk1 hnek rfl hk3 hy hk2 (by omega) (by omega) hk4 hk5
   have hls : ((Q.set a (qa + rate)).set k (qe - rate)).length = Q.length := by rw [List.length_set, List.length_set]
   have hls2 : (Q.set a (qa + rate)).length = Q.length := List.length_set
   have hg4 : ((Q.set a (qa + rate)).map iRow).getD k [] = [di qe] := by
    rw [iRow_at _ k (by rw [List.length_set]; exact hkQ), List.getElem_set_ne hnek, hQk]
   simp (maxSteps:=500000) only [↓vp, vv, ↓reduceIte, simprocAttr, c48_19, c48_18, TPl, PF, PH, netD, f0, f3, f4, f5, f7, f8, f9, f10, f11, f12, f13, hk0, hk6, ha0', haQ, haQ', hkQ, hkQ', hg2, hg3, hg4, Int.toNat_natCast, w4, w5, iRow_set, hls, hls2, List.length_set]
   refine pl6 i L n hv g R ((Q.set a (qa + rate)).set k (qe - rate)) U tu m rate W hG.pr hW.room hW.nd hr (by omega) _ _ at6 (weak_eqA [(i.1 + 1, 1012)] [i, (i.1 + 1, 3), (i.1 + 1, 4), (i.1 + 1, 5), (i.1 + 1, 25), (i.1 + 1, 29), (i.1 + 1, 1005)] (PF i tu m [(11, di rate), (239, .sl (W.map nRow)), (240, di W.length), (241, di 0)]) (by refine ⟨?_, ?_, ?_, by simp, ?_⟩ <;> (simp only [↓vp, vv, ↓reduceIte, simprocAttr, coverS, refsF, PF, PH, netD, iRow, bRow, nRow, f0, f3, f4, f5, f7, f8, f11, f12, hB, hls, hls2, w4, w5, List.length_set] <;> try rfl))) ?_
   rintro F2 ⟨f0, f3, f4, f5, f7, f8⟩
   have hbl := bumps_len n rate W R
   simp (maxSteps:=500000) only [↓vp, vv, ↓reduceIte, simprocAttr, TPl, PF, PH, netD, f0, f3, f4, f5, f7, f8, wm]
   refine nx hm at6 _ _ _ _ o6 hG2 ?_ ?_ ?_ ?_ ?_ ?_ ?_ ?_ ?_ ?_ ?_ ?_ ?_ <;> simp (maxSteps:=500000) only [↓vp, vv, ↓reduceIte, simprocAttr, netD, wm, f0, f3, f4, f5, f7, f8]
 ·obtain rfl : m = 0 := by omega
  simp (maxSteps:=500000) only [↓vp, vv, ↓reduceIte, simprocAttr, c48_23, PF]
  refine hX _ at2 R Q o2 hG ?_ ?_ ?_ ?_ <;> simp (maxSteps:=500000) only [↓vp, vv, ↓reduceIte, simprocAttr, ]
theorem pg_zero {n : Net} (hv : NetV n) : PG n (List.replicate n.segs.length 0) (List.replicate n.ports.length 0) := by
 have z : ∀ x, x ∈ n.segs.zip (List.replicate n.segs.length (0 : Int)) → x.2 = 0 := fun x hx => (List.mem_replicate.1 (List.of_mem_zip hx).2).2
 refine ⟨⟨List.length_replicate, fun x hx => ?_, fun x hx h => absurd (z x hx) h⟩, List.length_replicate, fun r hr => ?_, fun v => ?_⟩
 ·have := (hv.se x.1 (List.of_mem_zip hx).1).2.2.2.1
  unfold RateIn minC
  rw [z x hx]
  split <;> omega
 ·rw [(List.mem_replicate.1 hr).2]; omega
 ·refine sumI_zero fun t ht => ?_
  have : t.2.2 = 0 := by
   unfold flowsOf at ht
   rcases List.mem_append.1 ht with ht | ht
   ·rw [← List.map_uncurry_zip_eq_zipWith] at ht
    obtain ⟨x, hx, rfl⟩ := List.mem_map.1 ht
    exact (List.mem_replicate.1 (List.of_mem_zip hx).2).2
   ·rw [← List.map_uncurry_zip_eq_zipWith] at ht
    obtain ⟨x, hx, rfl⟩ := List.mem_map.1 ht
    exact (List.mem_replicate.1 (List.of_mem_zip hx).2).2
  unfold netOf
  rw [this]
  split <;> split <;> rfl
theorem rep_i (k : Nat) : List.replicate k [di 0] = (List.replicate k 0).map iRow := by rw [List.map_replicate]; rfl
set_option maxHeartbeats 16000000 in
theorem Plan_c (n : Net) (hv : NetV n) (hp1 : 1 ≤ n.ports.length) : SrcC Tryd.prog 48 [n.enc] (PlanOk n) Pln.enc := by
 intro i L at' nn ho
 obtain ⟨code, h1, h2⟩ := c48_ok
 refine callsA_of TPl_ok mixed (N := fun t => (i.1 + 1, t)) Tryd.func48 h1 h2 r48_ok [i] false js_one js_one' (by simp [Tryd.f48]) ?_
 have hnl := hv.nl
 have hsl := hv.sl
 have hql := hv.ql
 have htl := hv.tl
 have u1 := idx_nn n.segs.length
 have u2 := idx_nn n.ports.length
 have v1' : (8 : Int) * n.segs.length ≤ 281474976710656 := by omega
 have v2' : (8 : Int) * n.ports.length ≤ 281474976710656 := by omega
 have v4' : (n.segs.length : Int) ≤ 4611686018427387904 := by omega
 have v5' : (n.ports.length : Int) ≤ 4611686018427387904 := by omega
 simp (maxSteps:=500000) only [↓vp, vv, ↓reduceIte, simprocAttr, c48, TPl, T2, T1, Net.enc, u1, u2, v1', v2', v4', v5', Int.toNat_natCast, rep_i]
 rw [vc_loop]
 refine ⟨fun m s => ∃ at' U g, SrcOk L at' ∧ U.length + m = n.sts.length ∧ s = ⟨fr [(0, .ptr i 0 0 0), (3, .ptr (i.1 + 1, 3) 0 0 0), (4, .ptr (i.1 + 1, 4) 0 0 0), (5, .ptr (i.1 + 1, 5) 0 0 0), (6, di U.length)], PH i n g (List.replicate n.segs.length 0) (List.replicate n.ports.length 0) U L at' Hp.none⟩, ⟨n.sts.length, _, (weak_ownC (i.1 + 1, 5) 0 3 [.own (i.1 + 1, 25) 0 0 n.segs.length, .own (i.1 + 1, 29) 0 0 n.ports.length] [] (i.1 + 1, 1005) 1 (by simp only [↓vp, vv, ↓reduceIte, simprocAttr, ]) (by simp only [↓vp, vv, ↓reduceIte, simprocAttr, ])).trans (weak_eqA [] [i, (i.1 + 1, 3), (i.1 + 1, 4), (i.1 + 1, 5), (i.1 + 1, 25), (i.1 + 1, 29), (i.1 + 1, 1005)] [(0, .ptr i 0 0 0), (3, .ptr (i.1 + 1, 3) 0 0 0), (4, .ptr (i.1 + 1, 4) 0 0 0), (5, .ptr (i.1 + 1, 5) 0 0 0), (6, di 0)] (by refine ⟨?_, ?_, ?_, by simp, ?_⟩ <;> (simp only [↓vp, vv, ↓reduceIte, simprocAttr, coverS, refsF, PH, netD, iRow, bRow, List.length_replicate] <;> try rfl))), at', [], 0, ho, by simp, rfl⟩, ?_⟩
 rintro m s ⟨at2, U, g, o2, hm, rfl⟩
 by_cases hj : U.length < n.sts.length
 ·have hj' : (U.length : Int) < n.sts.length := by omega
  have w1 := idx_next (j := U.length) (by omega)
  have y1 : (U.length + 1) * 1 ≤ 140737488355328 := by omega
  have y2 : U.length + 1 ≤ 4611686018427387904 := by omega
  simp (maxSteps:=500000) only [↓vp, vv, ↓reduceIte, simprocAttr, c48_2, c48_1, TPl, T2, T1, selI, PH, netD, hj', o2, w1, y1, y2]
  rintro ⟨at3, o3⟩ v hv2
  refine ⟨m - 1, _, by omega, (weak_eqA [] [i, (i.1 + 1, 3), (i.1 + 1, 4), (i.1 + 1, 5), (i.1 + 1, 25), (i.1 + 1, 29), (i.1 + 1, 1005)] [(0, .ptr i 0 0 0), (3, .ptr (i.1 + 1, 3) 0 0 0), (4, .ptr (i.1 + 1, 4) 0 0 0), (5, .ptr (i.1 + 1, 5) 0 0 0), (6, di (U.length + 1 : Nat))] (by refine ⟨?_, ?_, ?_, by simp, ?_⟩ <;> (simp only [↓vp, vv, ↓reduceIte, simprocAttr, coverS, refsF, PH, netD, iRow, bRow, w1] <;> try rfl))), at3, U ++ [v == 0], g + 1, o3, by rw [List.length_append, List.length_singleton]; omega, ?_⟩
  simp only [PH, List.map_append, List.map_cons, List.map_nil, bRow, List.length_append, List.length_singleton]
 ·have hj' : ¬ (U.length : Int) < n.sts.length := by omega
  have hU : U.length = n.sts.length := by omega
  simp (maxSteps:=500000) only [↓vp, vv, ↓reduceIte, simprocAttr, c48_2, c48_26, TPl, T2, T1, selI, PH, netD, hj', o2]
  rintro ⟨at3, o3⟩ v hv2 ⟨at4, o4⟩ cv ⟨hc0, hc1, _⟩
  have hc2 := hc1 (by omega)
  obtain ⟨c, rfl⟩ : ∃ c : Nat, cv = c := ⟨cv.toNat, by omega⟩
  refine pl2 i L n hv hp1 g _ _ U (v == 0) c (pg_zero hv) (by omega) _ _ at4 o4 (weak_eqA [] [i, (i.1 + 1, 3), (i.1 + 1, 4), (i.1 + 1, 5), (i.1 + 1, 25), (i.1 + 1, 29), (i.1 + 1, 1005)] (PF i (v == 0) c []) (by refine ⟨?_, ?_, ?_, by simp, ?_⟩ <;> (simp only [↓vp, vv, ↓reduceIte, simprocAttr, coverS, refsF, PF, PH, netD, iRow, bRow] <;> try rfl))) ?_
  rintro F at5 R Q o5 hG f0 f4 f5 f7
  have hsm : SmI R ∧ SmI Q := ⟨⟨by have := hG.pr.rl; omega, fun r hr => by have := pr_b hG.pr r hr; omega⟩, by have := hG.ql; omega, fun r hr => by have := hG.qb r hr; omega⟩
  have hp := hG.ok hU
  have hp1 : plnOf1 [D.sl (R.map iRow), .sl (Q.map iRow), .sl (U.map bRow)] = some ⟨R, Q, U⟩ := plnOf1_row ⟨R, Q, U⟩
  have hUl : U.length ≤ 1000000 := by omega
  have pl1 : ∀ (W : List Int), ∀ j, j ∈ W → ∀ d, d ∈ iRow j → d.plain = true := fun _ _ _ d hd => by rw [List.mem_singleton.1 hd]; rfl
  have pl2 : ∀ (W : List Bool), ∀ j, j ∈ W → ∀ d, d ∈ bRow j → d.plain = true := fun _ _ _ d hd => by rw [List.mem_singleton.1 hd]; rfl
  cases c1 : (v == (0 : Int)) with
  | true =>
   rw [c1] at f7
   simp (maxSteps:=500000) only [↓vp, vv, ↓reduceIte, simprocAttr, c48_25, c48_24, r48, TPl, selNeg, PH, netD, f0, f4, f5, f7, hp1, hsm, hUl, Pln.enc, plnD]
   exact ⟨⟨pl1 R, pl1 Q, pl2 U⟩, at5, negP ⟨R, Q, U⟩, o5, hp.neg, rfl, rfl⟩
  | false =>
   rw [c1] at f7
   simp (maxSteps:=500000) only [↓vp, vv, ↓reduceIte, simprocAttr, c48_25, c48_24, r48, TPl, selNeg, PH, netD, f0, f4, f5, f7]
   exact ⟨⟨pl1 R, pl1 Q, pl2 U⟩, at5, ⟨R, Q, U⟩, o5, hp, rfl, rfl⟩
def rowNew : List D → Hp → Nm → Option (Prop × (D → Hp → Prop)) := fun args Hs nn =>
 match args with
 | [.sl L] => some (Hs = Hp.none, Pu (.ptr nn 0 0 0) (Hp.none.put nn (sE (L.take 2000) 0)))
 | _ => Option.none
theorem tc_new {T : Tbl} (hT : TblOk Tryd.prog T) : TblOk Tryd.prog (tc 11 rowNew T) :=
 tc_row f11_ok (fun args Hs nn pre R hr hp => by
  unfold rowNew at hr
  split at hr
  ·cases hr
   subst hp
   exact ⟨⟨_, _, rfl, rfl⟩, New_c _ nn⟩
  ·cases hr) hT
theorem AllI.one {α : Type} {P : Nat → α → Prop} {x : α} (h : P 0 x) : AllI P [x] := (AllI.nil P).snoc h
theorem AllI.two {α : Type} {P : Nat → α → Prop} {x y : α} (h : P 0 x) (k : P 1 y) : AllI P [x, y] := (AllI.one h).snoc k
theorem netOk_ex : NetOk ⟨[nm1B ⟨#[110]⟩ 0, nm1B ⟨#[110]⟩ 1], [⟨nm1B ⟨#[103]⟩ 0, 0, 1, 1, 0, 0, [⟨0, 0, 0⟩, ⟨1, 0, 0⟩]⟩], [⟨nm1B ⟨#[113]⟩ 0, 0, 0⟩, ⟨nm1B ⟨#[113]⟩ 1, 1, 0⟩], [], 0, 0⟩ := by
 refine ⟨AllI.two rfl rfl, by simp, AllI.one ⟨0, 1, by simp, by simp, by simp, segOk_ex _ _ _, fun _ => ⟨rfl, rfl⟩⟩, by simp, ⟨AllI.two ⟨rfl, by simp, by simp, by simp, by simp⟩ ⟨rfl, by simp, by simp, by simp, by simp⟩, by simp, fun _ => rfl, fun _ => rfl, by simp⟩, ⟨AllI.nil _, List.Pairwise.nil, by simp⟩, by simp, by simp⟩
theorem tc_net {T : Tbl} (hT : TblOk Tryd.prog T) : TblOk Tryd.prog (tc 39 (rowSrc (sel0 NetOk) Net.enc) T) :=
 tc_src f39_ok (fun args pre post h hp => by
  unfold sel0 at h
  split at h <;> cases h
  exact ⟨⟨_, netOk_ex⟩, Network_c⟩) hT
def selAw : List D → Option (Prop × D)
 | [] => some (True, db true)
 | _ => Option.none
theorem src_new (ns : List Int) (h : ∀ n ∈ ns, InI n) : SrcOk ((ns.map fun n => [di n]).take 2000) 0 :=
 ⟨Int.le_refl _, Int.natCast_nonneg _, by rw [List.length_take]; omega, ns.take 2000, by rw [List.map_take], fun n hn => h n (List.mem_of_mem_take hn)⟩
theorem with_t {r m : Int} (h1 : -m ≤ r) (h2 : r ≤ m) : withB r m = true := by unfold withB; rw [if_pos h1]; exact decide_eq_true h2
theorem len_f {n : Net} {p : Pln} (h1 : p.rates.length = n.segs.length) (h2 : p.ports.length = n.ports.length) (h3 : p.pumps.length = n.sts.length) : lenBad n p = false := by
 unfold lenBad
 rw [h1, h2, h3]
 simp
theorem any_ff {α : Type} {p : α → Bool} {l : List α} (h : ∀ x ∈ l, p x = false) : l.any p = false := List.any_eq_false.2 fun x hx e => by rw [h x hx] at e; cases e
theorem plan0 {n : Net} {p : Pln} (hck : checkI n = 0) (h : PlanOk n p) : fckI n p = 0 := by
 have hv := check0 hck
 unfold fckI
 rw [if_pos hck, len_f h.rl h.ql h.ul, any_ff fun x hx => ?_, any_ff fun r hr => ?_, if_pos ((bal_iff _).2 fun v _ => h.bal v)]
 ·have := ord_full (edge_ok p hv) h.mono
  unfold ordB
  rw [this]
  simp
 ·have := h.qb r hr
  unfold portBadR
  rw [with_t (by omega) (by omega)]
  rfl
 ·have := h.rb x hx
  unfold RateIn at this
  unfold rateBad
  rw [most_min, with_t this.1 this.2]
  rfl
def selPlan : List D → Option (Prop × (Pln → Prop))
 | [.agg r] => match netOf1 r with
  | some n => some (NetV n ∧ 1 ≤ n.ports.length, PlanOk n)
  | Option.none => Option.none
 | _ => Option.none
theorem tc_plan {T : Tbl} (hT : TblOk Tryd.prog T) : TblOk Tryd.prog (tc 48 (rowSrc selPlan Pln.enc) T) :=
 tc_src f48_ok (fun args pre post h hp => by
  unfold selPlan at h
  split at h
  ·split at h
   ·rename_i n hn
    cases h
    rw [netOf1_eq hn]
    exact ⟨⟨⟨_, _, List.replicate n.sts.length false⟩, (pg_zero hp.1).ok List.length_replicate⟩, Plan_c n hp.1 hp.2⟩
   ·cases h
  ·cases h) hT
theorem ports1 {n : Net} (hn : NetOk n) : 1 ≤ n.ports.length := by
 have hp := hn.ports
 have hl := hn.nlen
 have := hp.hd (by omega)
 cases hq : n.ports with
 | nil => rw [hq] at this; cases this
 | cons => simp
end Go.Proofs.YtehmmnnmkapfeaaDoor

/- Flow: the sanity check of the laws, run. -/
namespace Go.Proofs.YtehmmnnmkapfeaaDoor
open Go
end Go.Proofs.YtehmmnnmkapfeaaDoor

/- Flow: contracts for every network and every plan that can be counted. -/
namespace Go.Proofs.YtehmmnnmkapfeaaDoor
open Go
def PreP (_ : Net) (p : Pln) : Prop := PlnSz p
theorem fck_lim {n : Net} {p : Pln} (h : limB n = false) : fckI n p = 4 := by unfold fckI; rw [chk_lim h]; rfl
def TFw2 : Tbl := tc 78 (rowPu (selNetW (fun _ => True) fun n => di (checkI n))) T0
theorem TFw2_ok : TblOk Tryd.prog TFw2 := tc_netw f78_ok (fun n _ nn => rcheck_w n nn) (T0_ok _)
set_option maxHeartbeats 4000000 in
theorem rchk16_w (n : Net) (p : Pln) (hq : PreP n p) (nn : Nm) : CallsA Tryd.prog 123 [n.enc, p.enc] Hp.none nn (Pu (di (fckI n p)) Hp.none) := by
 cases a1 : limB n with
 | true => exact rchk16_c n p (sz_of_lim a1) hq nn
 | false =>
  obtain ⟨code, h1, h2⟩ := c123_ok
  refine callsA_of TFw2_ok mixed (N := fun t => (0, t)) Tryd.func123 h1 h2 r123_ok [] false js_nil js_nil' (by simp [Tryd.f123]) ?_
  have hn1 := netOf1_x n
  have hc := chk_lim a1
  have hf := fck_lim (p := p) a1
  simp (maxSteps:=500000) only [↓vp, vv, ↓reduceIte, simprocAttr, c123, r123, c123_1, c123_10, c123_11, c123_12, c123_13, c123_14, c123_15, c123_2, c123_3, c123_4, c123_5, c123_6, c123_7, c123_8, c123_9, TFw2, selNetW, Net.enc, Pln.enc, netD, plnD, hn1, hc, hf, Pu]
def TFw3 : Tbl := tc 123 (rowPu (selNP PreP fun n p => di (fckI n p))) (tc 149 (rowPu selS16) (tc 124 (rowPu (selNP OrdIn fun n p => .sl ((ordB n p).map nRow))) T0))
theorem TFw3_ok : TblOk Tryd.prog TFw3 := tc_np f123_ok (fun n p h nn => rchk16_w n p h nn) (tc_pu f149_ok (fun args pre d hs hp nn => by
 unfold selS16 at hs
 split at hs
 ·split at hs
  ·rename_i e1 e2
   cases hs
   rw [netOf1_eq e1, plnOf1_eq e2]
   exact rsums_c _ _ hp.1 _ hp.2 nn
  ·cases hs
 ·cases hs) (tc_np f124_ok (fun n p h nn => rorder_c n p h nn) (T0_ok _)))
set_option maxHeartbeats 4000000 in
theorem rOrder_w (n : Net) (p : Pln) (hq : PreP n p) (nn : Nm) : CallsA Tryd.prog 83 [n.enc, p.enc] Hp.none nn (Pu (.tup [.sl ((ordR n p).map nRow), di (fckI n p)]) Hp.none) := by
 obtain ⟨code, h1, h2⟩ := c83_ok
 refine callsA_of TFw3_ok mixed (N := fun t => (0, t)) Tryd.func83 h1 h2 r83_ok [] false js_nil js_nil' (by simp [Tryd.f83]) ?_
 have hn1 := netOf1_x n
 have hp1 := plnOf1_x p
 by_cases a0 : fckI n p = 0
 ·have hv := fck0 a0
  have ho : OrdIn n p := ⟨by have := hv.net.nl; omega, by have := hv.net.sl; omega, hv.rl, hv.ord.2.2.2⟩
  have hr : ordR n p = ordB n p := if_pos a0
  simp (maxSteps:=500000) only [↓vp, vv, ↓reduceIte, simprocAttr, c83, r83, c83_1, TFw3, selNP, Net.enc, Pln.enc, netD, plnD, hn1, hp1, hq, ho, a0, bne_self_eq_false, hr, Pu]
 ·have b0 : (fckI n p != 0) = true := by simp [a0]
  have hr : ordR n p = [] := if_neg a0
  simp (maxSteps:=500000) only [↓vp, vv, ↓reduceIte, simprocAttr, c83, r83, c83_1, TFw3, selNP, Net.enc, Pln.enc, netD, plnD, hn1, hp1, hq, b0, hr, Pu]
structure Bat where
 pr : Int
 sh : ByteArray
 fr : Int
 to : Int
def Bat.row (b : Bat) : List D := [di b.pr, ds b.sh, di b.fr, di b.to]
def btA (l : List Bat) (j : Nat) : Bat := l.getD j ⟨0, ⟨#[]⟩, 0, 0⟩
theorem bt_get {l : List Bat} {j : Nat} (h : j < l.length) : (l.map Bat.row).getD j [] = [di (btA l j).pr, ds (btA l j).sh, di (btA l j).fr, di (btA l j).to] := by
 unfold btA
 rw [List.getD_eq_getElem?_getD, List.getElem?_map, List.getD_eq_getElem?_getD, List.getElem?_eq_getElem h]
 rfl
def btOf : List D → Option Bat
 | [.v (.int .i64 a), .v (.string s), .v (.int .i64 b), .v (.int .i64 c)] => some ⟨a, s, b, c⟩
 | _ => Option.none
theorem btOf_eq {l : List D} {m : Bat} (h : btOf l = some m) : l = m.row := by unfold btOf at h; split at h <;> cases h; rfl
def btsOf : List (List D) → Option (List Bat)
 | [] => some []
 | r :: l => match btOf r, btsOf l with
  | some c, some cs => some (c :: cs)
  | _, _ => Option.none
theorem btsOf_map (l : List Bat) : btsOf (l.map Bat.row) = some l := by
 induction l with
 | nil => rfl
 | cons c l ih => rw [List.map_cons, btsOf, ih]; rfl
theorem btsOf_eq : ∀ {l : List (List D)} {cs : List Bat}, btsOf l = some cs → l = cs.map Bat.row
 | [], cs, h => by cases h; rfl
 | r :: l, cs, h => by
  rw [btsOf] at h
  split at h
  ·rename_i e e'; cases h; rw [List.map_cons, btOf_eq e, btsOf_eq e']
  ·cases h
def unkB (ps : List Prd) (bs : List Bat) (p : Pce) : Bool := decide ((bs.length : Int) ≤ p.ba) || (decide ((btA bs p.ba.toNat).pr < 0) || decide ((ps.length : Int) ≤ (btA bs p.ba.toNat).pr))
def segV (ps : List Prd) (bs : List Bat) (c : Cnd) (p : Pce) : Int × Int :=
 if (facI (pdA ps (btA bs p.ba.toNat).pr.toNat) c).2 = 0 then stdI p.vo (facI (pdA ps (btA bs p.ba.toNat).pr.toNat) c).1 else (0, (facI (pdA ps (btA bs p.ba.toNat).pr.toNat) c).2)
def segGo (ps : List Prd) (bs : List Bat) (c : Cnd) : List Pce → Int → Int × Int
 | [], s => (s, 0)
 | p :: l, s => if (segV ps bs c p).2 = 0 then segGo ps bs c l (IntKind.i64.wrap (s + (segV ps bs c p).1)) else (0, (segV ps bs c p).2)
def segI (ps : List Prd) (bs : List Bat) (f : List Pce) (c : Cnd) : Int × Int :=
 if pckI ps = 0 then (if flV f then (if f.any (unkB ps bs) then (0, 8) else segGo ps bs c f 0) else (0, 14)) else (0, pckI ps)
theorem sumW_app (x : Int) : ∀ (l : List Int) (s : Int), sumW (l ++ [x]) s = IntKind.i64.wrap (sumW l s + x)
 | [], s => rfl
 | y :: l, s => by rw [List.cons_append, sumW, sumW, sumW_app x l]
theorem flV_o {f : List Pce} (h : flV f = true) : f.length ≤ 200 ∧ ∀ j, j < f.length → pcBad f j = false := by
 unfold flV at h
 split at h
 ·cases h
 ·split at h
  ·cases h
  ·rename_i h1 h2
   refine ⟨by omega, fun j hj => ?_⟩
   have := List.any_eq_false.1 (by simpa using h2) j (List.mem_range.2 hj)
   simpa using this
theorem pcBad_o {f : List Pce} {j : Nat} (h : pcBad f j = false) : (0 ≤ (pcA f j).ba ∧ (pcA f j).ba < 1000) ∧ (1 ≤ (pcA f j).vo ∧ (pcA f j).vo ≤ 1000000) := by
 unfold pcBad litB at h
 simp only [Bool.or_eq_false_iff, Bool.not_eq_false', Bool.and_eq_true, decide_eq_true_eq, beq_eq_false_iff_ne] at h
 omega
theorem any_drop {q : Pce → Bool} {l : List Pce} {j : Nat} (h : j < l.length) {b : Bool} (he : (l.drop j).any q = b) : (q (pcA l j) = true → b = true) ∧ (q (pcA l j) = false → (l.drop (j + 1)).any q = b) := by
 have := drop_any h he
 rw [pc_at h] at this
 exact this
structure SgPre (ps : List Prd) (bs : List Bat) (f : List Pce) : Prop where
 ps : ps.length ≤ 1000000
 bs : bs.length ≤ 1000000
 f : f.length ≤ 1000000
def SgT : Tbl := tc 66 (rowPu selPk) (tc 67 (rowPu selFv) (tc 57 (rowPu selFa) (tc 58 (rowPu selSd) (tc 68 (rowPu selSu) T0))))
theorem SgT_ok : TblOk Tryd.prog SgT := tc_pck (tc_fv (tc_fa (tc_sd (tc_su (T0_ok _)))))
def SgH (c : Cnd) : Hp := Hp.none.put (0, 7) ⟨0, 2, [c.row]⟩
def SgB (ps : List Prd) (bs : List Bat) (e : List (Nat × D)) : List (Nat × D) := (0, .sl (ps.map Prd.row)) :: (1, .sl (bs.map Bat.row)) :: (7, .ptr (0, 7) 0 0 0) :: e
def SgF1 (ps : List Prd) (bs : List Bat) (f : List Pce) (j : Int) : List (Nat × D) := SgB ps bs [(2, .sl (f.map Pce.row)), (27, .sl (f.map Pce.row)), (28, di f.length), (29, di j)]
def SgF2 (ps : List Prd) (bs : List Bat) (f : List Pce) (out : List Int) (g : Nat) (j : Int) : List (Nat × D) := SgB ps bs [(13, .own (0, 1000) g 0 out.length), (59, .sl (f.map Pce.row)), (60, di f.length), (61, di j)]
def SgH2 (c : Cnd) (out : List Int) (g : Nat) : Hp := (SgH c).put (0, 1000) ⟨g, 1, out.map iR⟩
set_option maxHeartbeats 16000000 in
theorem pseg_c (ps : List Prd) (bs : List Bat) (f : List Pce) (c : Cnd) (h : SgPre ps bs f) (nn : Nm) : CallsA Tryd.prog 34 [.sl (ps.map Prd.row), .sl (bs.map Bat.row), .sl (f.map Pce.row), c.enc] Hp.none nn (Pu (ie (segI ps bs f c)) Hp.none) := by
 obtain ⟨code, h1, h2⟩ := c34_ok
 refine callsA_of SgT_ok mixed (N := fun t => (0, t)) Tryd.func34 h1 h2 r34_ok [] false js_nil js_nil' (by simp [Tryd.f34]) ?_
 have b1 : PsOk ps := h.ps
 have b2 : PfOk f := h.f
 have b3 := h.bs
 have b4 := h.f
 have b5 := h.ps
 cases a0 : (pckI ps != 0) with
 | true =>
  have e : segI ps bs f c = (0, pckI ps) := by unfold segI; rw [if_neg (neq_b a0)]
  simp (maxSteps:=500000) only [↓vp, vv, ↓reduceIte, simprocAttr, c34, r34, c34_1, c34_10, c34_11, c34_12, c34_2, c34_3, c34_4, c34_5, c34_6, c34_7, c34_8, c34_9, r34, SgT, selPk, selX, decPs, prdsOf_map, b1, a0, e, ie, Cnd.enc, Cnd.row, Pu]
 | false =>
 have k0 := eq_b a0
 cases a1 : flV f with
 | false =>
  have e : segI ps bs f c = (0, 14) := by unfold segI; rw [if_pos k0, a1]; rfl
  simp (maxSteps:=500000) only [↓vp, vv, ↓reduceIte, simprocAttr, c34, r34, c34_1, c34_10, c34_11, c34_12, c34_2, c34_3, c34_4, c34_5, c34_6, c34_7, c34_8, c34_9, r34, SgT, selPk, selFv, selX, decPs, decPf, prdsOf_map, pcsOf_map, b1, b2, k0, a1, e, ie, Cnd.enc, Cnd.row, Pu]
 | true =>
 have e0 : segI ps bs f c = if f.any (unkB ps bs) then (0, 8) else segGo ps bs c f 0 := by unfold segI; rw [if_pos k0, a1, if_pos rfl]
 have hf := flV_o a1
 generalize hb : f.any (unkB ps bs) = b at e0
 generalize hX : segGo ps bs c f 0 = X at e0
 simp (maxSteps:=500000) only [↓vp, vv, ↓reduceIte, simprocAttr, c34, r34, c34_1, c34_10, c34_11, c34_12, c34_2, c34_3, c34_4, c34_5, c34_6, c34_7, c34_8, c34_9, SgT, selPk, selFv, selX, decPs, decPf, prdsOf_map, pcsOf_map, b1, b2, k0, a1, Cnd.enc, Cnd.row]
 refine rng_loop f.length (fun j => ⟨fr (SgF1 ps bs f (j : Nat)), SgH c⟩) (fun j => (f.drop j).any (unkB ps bs) = b) (weak_eqA [] [(0, 7)] (SgF1 ps bs f 0) (by refine ⟨?_, ?_, ?_, by simp, ?_⟩ <;> (simp only [↓vp, vv, ↓reduceIte, simprocAttr, coverS, refsF, SgF1, SgB, SgH, Cnd.row] <;> try rfl))) hb (fun j hj hP => ?_) (fun hP => ?_)
 ·have hj' : (j : Int) < f.length := by omega
  have w1 := idx_next (j := j) (by omega)
  have g1 := pc_get hj
  obtain ⟨n1, n2⟩ := any_drop hj hP
  obtain ⟨⟨p0, p1⟩, _⟩ := pcBad_o (hf.2 j hj)
  have hu : unkB ps bs (pcA f j) = (decide ((bs.length : Int) ≤ (pcA f j).ba) || (decide ((btA bs (pcA f j).ba.toNat).pr < 0) || decide ((ps.length : Int) ≤ (btA bs (pcA f j).ba.toNat).pr))) := rfl
  generalize pcA f j = p at g1 n1 n2 p0 p1 hu
  cases c1 : decide ((bs.length : Int) ≤ p.ba) with
  | true =>
   have := n1 (by rw [hu, c1]; rfl)
   subst this
   simp (maxSteps:=500000) only [↓vp, vv, ↓reduceIte, simprocAttr, c34, r34, c34_1, c34_10, c34_11, c34_12, c34_2, c34_3, c34_4, c34_5, c34_6, c34_7, c34_8, c34_9, r34, SgT, SgF1, SgB, SgH, Cnd.row, hj', hj, g1, Int.toNat_natCast, idx_nn, c1, e0, ie, Pu]
  | false =>
  have q1 : p.ba < (bs.length : Int) := by have := of_decide_eq_false c1; omega
  have q2 : p.ba.toNat < bs.length := by omega
  have g2 := bt_get q2
  generalize btA bs p.ba.toNat = t at g2 hu
  cases c2 : decide (t.pr < 0) with
  | true =>
   have := n1 (by rw [hu, c1, c2]; rfl)
   subst this
   simp (maxSteps:=500000) only [↓vp, vv, ↓reduceIte, simprocAttr, c34, r34, c34_1, c34_10, c34_11, c34_12, c34_2, c34_3, c34_4, c34_5, c34_6, c34_7, c34_8, c34_9, r34, SgT, SgF1, SgB, SgH, Cnd.row, hj', hj, g1, g2, p0, q1, q2, Int.toNat_natCast, idx_nn, c1, c2, e0, ie, Pu]
  | false =>
  cases c3 : decide ((ps.length : Int) ≤ t.pr) with
  | true =>
   have := n1 (by rw [hu, c1, c2, c3]; rfl)
   subst this
   simp (maxSteps:=500000) only [↓vp, vv, ↓reduceIte, simprocAttr, c34, r34, c34_1, c34_10, c34_11, c34_12, c34_2, c34_3, c34_4, c34_5, c34_6, c34_7, c34_8, c34_9, r34, SgT, SgF1, SgB, SgH, Cnd.row, hj', hj, g1, g2, p0, q1, q2, Int.toNat_natCast, idx_nn, c1, c2, c3, e0, ie, Pu]
  | false =>
   have nx := n2 (by rw [hu, c1, c2, c3]; rfl)
   simp (maxSteps:=500000) only [↓vp, vv, ↓reduceIte, simprocAttr, c34, r34, c34_1, c34_10, c34_11, c34_12, c34_2, c34_3, c34_4, c34_5, c34_6, c34_7, c34_8, c34_9, r34, SgT, SgF1, SgB, SgH, Cnd.row, hj', hj, g1, g2, p0, q1, q2, Int.toNat_natCast, idx_nn, c1, c2, c3]
   refine rng_next hj ?_ nx
   exact (weak_eqA [] [(0, 7)] (SgF1 ps bs f ((j + 1 : Nat) : Int)) (by refine ⟨?_, ?_, ?_, by simp, ?_⟩ <;> (simp only [↓vp, vv, ↓reduceIte, simprocAttr, coverS, refsF, SgF1, SgB, SgH, Cnd.row, w1] <;> try rfl)))
 ·rw [List.drop_of_length_le (Nat.le_refl _)] at hP
  have : b = false := hP.symm
  subst this
  have hin : ∀ j, j < f.length → unkB ps bs (pcA f j) = false := fun j hj => by
   have := List.any_eq_false.1 hb (pcA f j) (by rw [← pc_at hj]; exact List.getElem_mem hj)
   simpa using this
  simp (maxSteps:=500000) only [↓vp, vv, ↓reduceIte, simprocAttr, c34, r34, c34_1, c34_10, c34_11, c34_12, c34_2, c34_3, c34_4, c34_5, c34_6, c34_7, c34_8, c34_9, SgT, SgF1, SgB, SgH, Cnd.row, Int.lt_irrefl]
  refine rng_loopP f.length (fun j (u : List Int × Nat) => ⟨fr (SgF2 ps bs f u.1 u.2 (j : Nat)), SgH2 c u.1 u.2⟩) (fun j u => u.1.length = j ∧ segGo ps bs c (f.drop j) (sumW u.1 0) = X) (u0 := ([], 0)) ((weak_own 13 (0, 1000) 1 (by simp only [↓vp, vv, ↓reduceIte, simprocAttr, ]) (by simp only [↓vp, vv, ↓reduceIte, simprocAttr, ])).trans (weak_eqA [] [(0, 1000), (0, 7)] (SgF2 ps bs f [] 0 0) (by refine ⟨?_, ?_, ?_, by simp, ?_⟩ <;> (simp only [↓vp, vv, ↓reduceIte, simprocAttr, coverS, refsF, SgF2, SgB, SgH2, SgH, Cnd.row, List.map_nil] <;> try rfl)))) ⟨rfl, hX⟩ (fun j hj u hP => ?_) (fun u hP => ?_)
  ·obtain ⟨out, g⟩ := u
   obtain ⟨ho, hP⟩ := hP
   dsimp only at ho hP
   have y1 : (out.length + 1) * 8 ≤ 140737488355328 := by omega
   have y2 : out.length + 1 ≤ 4611686018427387904 := by omega
   have hj' : (j : Int) < f.length := by omega
   have w1 := idx_next (j := j) (by omega)
   have g1 := pc_get hj
   have hu := hin j hj
   obtain ⟨⟨p0, p1⟩, _⟩ := pcBad_o (hf.2 j hj)
   rw [pc_drop hj, segGo] at hP
   generalize pcA f j = p at g1 hu p0 p1 hP
   unfold unkB at hu
   simp only [Bool.or_eq_false_iff, decide_eq_false_iff_not] at hu
   obtain ⟨u1, u2, u3⟩ := hu
   have q1 : p.ba < (bs.length : Int) := by omega
   have q2 : p.ba.toNat < bs.length := by omega
   have g2 := bt_get q2
   have hv : segV ps bs c p = if (facI (pdA ps (btA bs p.ba.toNat).pr.toNat) c).2 = 0 then stdI p.vo (facI (pdA ps (btA bs p.ba.toNat).pr.toNat) c).1 else (0, (facI (pdA ps (btA bs p.ba.toNat).pr.toNat) c).2) := rfl
   generalize btA bs p.ba.toNat = t at g2 hv u2 u3
   have r0 : 0 ≤ t.pr := by omega
   have r1 : t.pr < (ps.length : Int) := by omega
   have r2 : t.pr.toNat < ps.length := by omega
   have g3 := pd_get r2
   generalize pdA ps t.pr.toNat = z at g3 hv
   cases d1 : ((facI z c).2 != 0) with
   | true =>
    rw [if_neg (neq_b d1)] at hv
    rw [hv, if_neg (neq_b d1)] at hP
    simp (maxSteps:=500000) only [↓vp, vv, ↓reduceIte, simprocAttr, c34, r34, c34_1, c34_10, c34_11, c34_12, c34_2, c34_3, c34_4, c34_5, c34_6, c34_7, c34_8, c34_9, r34, SgT, SgF2, SgB, SgH2, SgH, selFa, selSd, selX, decPC, decII, tt, prdOf_x, cndOf_x, Cnd.row, Prd.row, ie, y1, y2, hj', hj, g1, g2, g3, p0, q1, q2, r0, r1, r2, Int.toNat_natCast, idx_nn, d1, e0, ← hP, Pu]
   | false =>
   have k1 := eq_b d1
   rw [if_pos k1] at hv
   rw [hv] at hP
   cases d2 : ((stdI p.vo (facI z c).1).2 != 0) with
   | true =>
    rw [if_neg (neq_b d2)] at hP
    simp (maxSteps:=500000) only [↓vp, vv, ↓reduceIte, simprocAttr, c34, r34, c34_1, c34_10, c34_11, c34_12, c34_2, c34_3, c34_4, c34_5, c34_6, c34_7, c34_8, c34_9, r34, SgT, SgF2, SgB, SgH2, SgH, selFa, selSd, selX, decPC, decII, tt, prdOf_x, cndOf_x, Cnd.row, Prd.row, ie, y1, y2, hj', hj, g1, g2, g3, p0, q1, q2, r0, r1, r2, Int.toNat_natCast, idx_nn, k1, d2, e0, ← hP, Pu]
   | false =>
    have k2 := eq_b d2
    rw [if_pos k2] at hP
    have nx : (out ++ [(stdI p.vo (facI z c).1).1]).length = j + 1 ∧ segGo ps bs c (f.drop (j + 1)) (sumW (out ++ [(stdI p.vo (facI z c).1).1]) 0) = X := ⟨by simp; omega, by rw [sumW_app]; exact hP⟩
    generalize hq : (stdI p.vo (facI z c).1).1 = v at nx
    simp (maxSteps:=500000) only [↓vp, vv, ↓reduceIte, simprocAttr, c34, r34, c34_1, c34_10, c34_11, c34_12, c34_2, c34_3, c34_4, c34_5, c34_6, c34_7, c34_8, c34_9, r34, SgT, SgF2, SgB, SgH2, SgH, selFa, selSd, selX, decPC, decII, tt, prdOf_x, cndOf_x, Cnd.row, Prd.row, ie, y1, y2, hj', hj, g1, g2, g3, p0, q1, q2, r0, r1, r2, Int.toNat_natCast, idx_nn, k1, k2, hq]
    refine rng_nextP hj (out ++ [v], g + 1) ?_ nx
    exact (weak_eqA [] [(0, 1000), (0, 7)] (SgF2 ps bs f (out ++ [v]) (g + 1) ((j + 1 : Nat) : Int)) (by refine ⟨?_, ?_, ?_, by simp, ?_⟩ <;> (simp only [↓vp, vv, ↓reduceIte, simprocAttr, coverS, refsF, SgF2, SgB, SgH2, SgH, Cnd.row, iR, w1, List.map_append, List.map_cons, List.map_nil, List.length_append, List.length_cons, List.length_nil] <;> try rfl)))
  ·obtain ⟨out, g⟩ := u
   obtain ⟨ho, hP⟩ := hP
   dsimp only at ho hP
   rw [List.drop_of_length_le (Nat.le_refl _), segGo] at hP
   have tk : (out.map iR).take out.length = out.map iR := List.take_of_length_le (by simp)
   have bo : I1Ok out := by unfold I1Ok; omega
   simp (maxSteps:=500000) only [↓vp, vv, ↓reduceIte, simprocAttr, c34, r34, c34_1, c34_10, c34_11, c34_12, c34_2, c34_3, c34_4, c34_5, c34_6, c34_7, c34_8, c34_9, r34, SgT, selSu, selX, decI1, intsOf_iR, tk, bo, SgF2, SgB, SgH2, SgH, Cnd.row, Int.lt_irrefl, eq_true (i_pl out), e0, ← hP, ie, Pu]
structure SgA where
 ps : List Prd
 bs : List Bat
 f : List Pce
 c : Cnd
def decSg : List D → Option SgA
 | [.sl x, .sl y, .sl z, .agg w] => match prdsOf x, btsOf y, pcsOf z, cndOf w with
  | some a, some b, some c, some d => some ⟨a, b, c, d⟩
  | _, _, _, _ => Option.none
 | _ => Option.none
theorem decSg_eq : ∀ l a, decSg l = some a → l = [.sl (a.ps.map Prd.row), .sl (a.bs.map Bat.row), .sl (a.f.map Pce.row), a.c.enc] := fun l a h => by
 unfold decSg at h
 split at h
 ·split at h
  ·rename_i e1 e2 e3 e4; cases h; rw [prdsOf_eq e1, btsOf_eq e2, pcsOf_eq e3, cndOf_eq e4]; rfl
  ·cases h
 ·cases h
def SgOk (a : SgA) : Prop := SgPre a.ps a.bs a.f
def selSg := selX decSg SgOk fun a => ie (segI a.ps a.bs a.f a.c)
theorem tc_sg {T : Tbl} (hT : TblOk Tryd.prog T) : TblOk Tryd.prog (tc 34 (rowPu selSg) T) := tc_x f34_ok decSg_eq (fun a h nn => pseg_c _ _ _ _ h nn) hT
def decI2 : List D → Option (List Int × List Int)
 | [.sl x, .sl y] => match intsOf x, intsOf y with
  | some a, some b => some (a, b)
  | _, _ => Option.none
 | _ => Option.none
theorem decI2_eq : ∀ l a, decI2 l = some a → l = [.sl (a.1.map iR), .sl (a.2.map iR)] := fun l a h => by
 unfold decI2 at h
 split at h
 ·split at h
  ·rename_i e e'; cases h; rw [intsOf_eqR e, intsOf_eqR e']
  ·cases h
 ·cases h
def Sc2 (a : List Int × List Int) : Prop := SecPre a.1 a.2
def selSc := selX decI2 Sc2 fun a => ie (secI a.1 a.2)
theorem tc_sc {T : Tbl} (hT : TblOk Tryd.prog T) : TblOk Tryd.prog (tc 37 (rowPu selSc) T) := tc_x f37_ok decI2_eq (fun a h nn => psec_c _ _ h nn) hT
def ChgT : Tbl := tc 37 (rowPu selSc) T0
theorem ChgT_ok : TblOk Tryd.prog ChgT := tc_sc (T0_ok _)
structure ChgPre (a b s : List Int) : Prop where
 a : SecPre a s
 b : SecPre b s
set_option maxHeartbeats 4000000 in
theorem pchg_c (a b s : List Int) (h : ChgPre a b s) (nn : Nm) : CallsA Tryd.prog 38 [.sl (a.map iR), .sl (b.map iR), .sl (s.map iR)] Hp.none nn (Pu (ie (chgI a b s)) Hp.none) := by
 obtain ⟨code, h1, h2⟩ := c38_ok
 refine callsA_of ChgT_ok mixed (N := fun t => (0, t)) Tryd.func38 h1 h2 r38_ok [] false js_nil js_nil' (by simp [Tryd.f38]) ?_
 have p1 : Sc2 (a, s) := h.a
 have p2 : Sc2 (b, s) := h.b
 have e0 : chgI a b s = if (secI a s).2 = 0 then (if (secI b s).2 = 0 then (IntKind.i64.wrap ((secI b s).1 - (secI a s).1), 0) else (0, (secI b s).2)) else (0, (secI a s).2) := rfl
 cases c1 : ((secI a s).2 != 0) with
 | true =>
  rw [if_neg (neq_b c1)] at e0
  simp (maxSteps:=500000) only [↓vp, vv, ↓reduceIte, simprocAttr, c38, r38, c38_1, c38_2, r38, ChgT, selSc, selX, decI2, intsOf_iR, p1, p2, c1, e0, ie, Pu]
 | false =>
 have k1 := eq_b c1
 rw [if_pos k1] at e0
 cases c2 : ((secI b s).2 != 0) with
 | true =>
  rw [if_neg (neq_b c2)] at e0
  simp (maxSteps:=500000) only [↓vp, vv, ↓reduceIte, simprocAttr, c38, r38, c38_1, c38_2, r38, ChgT, selSc, selX, decI2, intsOf_iR, p1, p2, k1, c2, e0, ie, Pu]
 | false =>
  have k2 := eq_b c2
  rw [if_pos k2] at e0
  simp (maxSteps:=500000) only [↓vp, vv, ↓reduceIte, simprocAttr, c38, r38, c38_1, c38_2, r38, ChgT, selSc, selX, decI2, intsOf_iR, p1, p2, k1, k2, e0, ie, Pu]
def decI3 : List D → Option (List Int × List Int × List Int)
 | [.sl x, .sl y, .sl z] => match intsOf x, intsOf y, intsOf z with
  | some a, some b, some c => some (a, b, c)
  | _, _, _ => Option.none
 | _ => Option.none
theorem decI3_eq : ∀ l a, decI3 l = some a → l = [.sl (a.1.map iR), .sl (a.2.1.map iR), .sl (a.2.2.map iR)] := fun l a h => by
 unfold decI3 at h
 split at h
 ·split at h
  ·rename_i e e' e''; cases h; rw [intsOf_eqR e, intsOf_eqR e', intsOf_eqR e'']
  ·cases h
 ·cases h
def Ch3 (a : List Int × List Int × List Int) : Prop := ChgPre a.1 a.2.1 a.2.2
def selCg := selX decI3 Ch3 fun a => ie (chgI a.1 a.2.1 a.2.2)
theorem tc_cg {T : Tbl} (hT : TblOk Tryd.prog T) : TblOk Tryd.prog (tc 38 (rowPu selCg) T) := tc_x f38_ok decI3_eq (fun a h nn => pchg_c _ _ _ h nn) hT
def AwT : Tbl := tc 34 (rowPu selSg) (tc 38 (rowPu selCg) T0)
theorem AwT_ok : TblOk Tryd.prog AwT := tc_sg (tc_cg (T0_ok _))
set_option maxHeartbeats 4000000 in
theorem awake33_c (nn : Nm) : CallsA Tryd.prog 28 [] Hp.none nn (Pu (db true) Hp.none) := by
 obtain ⟨code, h1, h2⟩ := c28_ok
 refine callsA_of AwT_ok mixed (N := fun t => (0, t)) Tryd.func28 h1 h2 r28_ok [] false js_nil js_nil' (by simp [Tryd.f28]) ?_
 have d1 : prdsOf [[ds ⟨#[112]⟩, di 800, di 800, di 0, di 1000]] = some [⟨⟨#[112]⟩, 800, 800, 0, 1000⟩] := rfl
 have d2 : btsOf [[di 0, ds ⟨#[115]⟩, di 0, di 0]] = some [⟨0, ⟨#[115]⟩, 0, 0⟩] := rfl
 have d3 : pcsOf [[di 0, di 100]] = some [⟨0, 100⟩] := rfl
 have d4 : cndOf [di 150, di 0] = some ⟨150, 0⟩ := rfl
 have d5 : intsOf [[di 5], [di 7]] = some [5, 7] := rfl
 have d6 : intsOf [[di 6], [di 9]] = some [6, 9] := rfl
 have d7 : intsOf [[di 1]] = some [1] := rfl
 have o1 : SgOk ⟨[⟨⟨#[112]⟩, 800, 800, 0, 1000⟩], [⟨0, ⟨#[115]⟩, 0, 0⟩], [⟨0, 100⟩], ⟨150, 0⟩⟩ := ⟨by simp, by simp, by simp⟩
 have o2 : Ch3 ([5, 7], [6, 9], [1]) := ⟨⟨by simp, by simp, by unfold InI; simp⟩, ⟨by simp, by simp, by unfold InI; simp⟩⟩
 have v1 : segI [⟨⟨#[112]⟩, 800, 800, 0, 1000⟩] [⟨0, ⟨#[115]⟩, 0, 0⟩] [⟨0, 100⟩] ⟨150, 0⟩ = (100, 0) := by decide +kernel
 have v2 : chgI [5, 7] [6, 9] [1] = (2, 0) := by decide +kernel
 simp (maxSteps:=500000) only [↓vp, vv, ↓reduceIte, simprocAttr, c28, r28, r28, AwT, selSg, selCg, selX, decSg, decI3, d1, d2, d3, d4, d5, d6, d7, o1, o2, v1, v2, ie, Pu]
def c44_1 : C := (.ops false [oM 15 5, oP 16 (.bin .add (.t 15) (cI 1)), oM 5 16])
def c44_2 : C := (.seq (.block 1 (.seq (.ops true [oM 17 0, oM 18 5, oA 19 (.iaS 1 (.t 17) (.t 18)) [1, 0], oA 20 (.ld 1 false (.t 19)) [0, 1, 2], oM 21 1, oM 22 5, oA 23 (.iaS 1 (.t 21) (.t 22)) [5, 4], oA 24 (.ld 1 false (.t 23)) [4, 5, 6], oA 25 (.bin .neq (.t 20) (.t 24)) [6, 5, 4, 2, 1, 0, 7, 3]]) (.cond (.t 25) (.seq (.ops false [oP 4 (.mv (cB false))]) .ret)
 .skip))) c44_1)
def c44_3 : C := (.seq (.seq (.ops false [oM 11 5, oM 12 0, oP 13 (.len (.t 12)), oP 14 (.bin .lss (.t 11) (.t 13))]) (.cond (.t 14) .skip (.exit 0))) c44_2)
def c44_4 : C := (.seq (.ops false [oP 4 (.mv (cB true))]) .ret)
def c44_5 : C := (.seq (.seq (.ops false [oP 5 (.mv (cI 0))]) (.block 0 (.loop c44_3))) c44_4)
def c44 : C := (.seq (.ops false [oP 4 (.mv (cB false))]) (.seq (.seq (.ops false [oM 6 0, oP 7 (.len (.t 6)), oM 8 1, oP 9 (.len (.t 8)), oP 10 (.bin .neq (.t 7) (.t 9))]) (.cond (.t 10) (.seq (.ops false [oP 4 (.mv (cB false))]) .ret) .skip)) c44_5))
def r44 : List RV := [(.tmp 4)]
theorem c44_ok : ∃ code, Tryd.f44.body = some code ∧ compC Tryd.prog Tryd.f44.ntmps code = some (C.strip c44) := ⟨_, rfl, by kernel_rfl⟩
theorem r44_ok : compRes Tryd.prog Tryd.f44.results.toList = some r44 := by kernel_rfl
theorem f44_ok : fnOk Tryd.prog 44 = true := by kernel_rfl
def SqF (x : List Int) (j : Int) : List (Nat × D) := [(0, .sl (x.map iR)), (1, .sl (x.map iR)), (5, di j)]
set_option maxHeartbeats 4000000 in
theorem sameq_c (x : List Int) (hx : x.length ≤ 1000000) (nn : Nm) : CallsA Tryd.prog 44 [.sl (x.map iR), .sl (x.map iR)] Hp.none nn (Pu (db true) Hp.none) := by
 obtain ⟨code, h1, h2⟩ := c44_ok
 refine callsA_of (T0_ok _) mixed (N := fun t => (0, t)) Tryd.func44 h1 h2 r44_ok [] false js_nil js_nil' (by simp [Tryd.f44]) ?_
 simp (maxSteps:=500000) only [↓vp, vv, ↓reduceIte, simprocAttr, c44, r44, c44_1, c44_2, c44_3, c44_4, c44_5, bne_self_eq_false]
 refine rng_loop x.length (fun j => ⟨fr (SqF x (j : Nat)), Hp.none⟩) (fun _ => True) (weak_eqA [] [] (SqF x 0) (by refine ⟨?_, ?_, ?_, by simp, ?_⟩ <;> (simp only [↓vp, vv, ↓reduceIte, simprocAttr, coverS, refsF, SqF] <;> try rfl))) trivial (fun j hj hP => ?_) (fun hP => ?_)
 ·have hj' : (j : Int) < x.length := by omega
  have w1 := idx_next (j := j) (by omega)
  have g1 := i_get hj
  simp (maxSteps:=500000) only [↓vp, vv, ↓reduceIte, simprocAttr, c44, r44, c44_1, c44_2, c44_3, c44_4, c44_5, SqF, hj', hj, g1, Int.toNat_natCast, idx_nn, bne_self_eq_false]
  refine rng_next hj ?_ trivial
  exact (weak_eqA [] [] (SqF x ((j + 1 : Nat) : Int)) (by refine ⟨?_, ?_, ?_, by simp, ?_⟩ <;> (simp only [↓vp, vv, ↓reduceIte, simprocAttr, coverS, refsF, SqF, w1] <;> try rfl)))
 ·simp (maxSteps:=500000) only [↓vp, vv, ↓reduceIte, simprocAttr, c44, r44, c44_1, c44_2, c44_3, c44_4, c44_5, r44, SqF, Int.lt_irrefl, Pu]
def selSq : List D → Option (Prop × D)
 | [.sl x, .sl y] => match intsOf x, intsOf y with
  | some a, some b => some (a = b ∧ a.length ≤ 1000000, db true)
  | _, _ => Option.none
 | _ => Option.none
theorem tc_sq {T : Tbl} (hT : TblOk Tryd.prog T) : TblOk Tryd.prog (tc 44 (rowPu selSq) T) :=
 tc_pu f44_ok (fun args pre d h hp nn => by
  unfold selSq at h
  split at h
  ·split at h
   ·rename_i e e'
    cases h
    obtain ⟨rfl, hl⟩ := hp
    rw [intsOf_eqR e, intsOf_eqR e']
    exact sameq_c _ hl nn
   ·cases h
  ·cases h) hT
end Go.Proofs.YtehmmnnmkapfeaaDoor
