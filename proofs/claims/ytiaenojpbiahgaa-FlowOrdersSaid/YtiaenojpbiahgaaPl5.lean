
/- Plans out of a source: the way that is laid. -/
import Derived.Test.YtiaenojpbiahgaaPl4
namespace Go.Proofs.Ytiaenojpbiahgaa
open Go
set_option linter.unusedVariables false
set_option linter.unusedSimpArgs false
set_option maxRecDepth 100000

theorem minC_b {c : Int} : minC c ≤ 1000 := by unfold minC; split <;> omega
theorem pr_b {n : Net} {R : List Int} (h : PR n R) : ∀ r ∈ R, -1000 ≤ r ∧ r ≤ 1000 := fun r hr => by
  obtain ⟨k, hk⟩ := List.getElem?_of_mem hr
  have hl : k < R.length := by
    rcases Nat.lt_or_ge k R.length with h | h
    · exact h
    · rw [List.getElem?_eq_none h] at hk; cases hk
  have hl2 : k < n.segs.length := by have := h.rl; omega
  have hx : (n.segs[k], r) ∈ n.segs.zip R := zip_of (List.getElem?_eq_getElem hl2) hk
  have := h.rb _ hx
  unfold RateIn at this
  have := @minC_b n.segs[k].cap
  dsimp only at *
  omega
theorem bump_len (n : Net) (rate : Int) (R : List Int) (k : Nat) : (bump n rate R k).length = R.length := by unfold bump; rw [List.length_set]
theorem bumps_len (n : Net) (rate : Int) : ∀ (W : List Nat) (R : List Int), (W.foldl (bump n rate) R).length = R.length
  | [], R => rfl
  | k :: W, R => by rw [List.foldl_cons, bumps_len n rate W, bump_len]
theorem nRow_at (W : List Nat) (j : Nat) (h : j < W.length) : (W.map nRow).getD j [] = [di (W[j] : Nat)] := by rw [getD_map nRow W j h]; rfl
theorem iRow_set (R : List Int) (k : Nat) (x : Int) : (R.map iRow).set k [di x] = (R.set k x).map iRow := (List.map_set ..).symm
theorem fold_take {α β : Type} (f : β → α → β) (b : β) (W : List α) (j : Nat) (h : j < W.length) : (W.take (j + 1)).foldl f b = f ((W.take j).foldl f b) W[j] := by
  rw [← List.take_append_getElem h, List.foldl_append]; rfl
set_option maxHeartbeats 16000000 in
theorem pl6 (i : Nm) (L : List (List D)) (n : Net) (hv : NetV n) (g : Nat) (R Q : List Int) (U : List Bool) (tu : Bool) (c rate : Int) (W : List Nat) (hPR : PR n R) (hroom : ∀ k ∈ W, Room n rate R k) (hnd : W.Nodup) (hr : 1 ≤ rate ∧ rate ≤ 300) (hWl : W.length ≤ 1000000)
    (s : St) (Qx : Ex → St → Prop) (at1 : Int) (hw : Weak [i] s ⟨fr (PF i tu c [(11, di rate), (239, .sl (W.map nRow)), (240, di W.length), (241, di 0)]), PH i n g R Q U L at1 Hp.none⟩)
    (hX : ∀ F, PFk i tu c F → Qx (.exit 10) ⟨F, PH i n g (W.foldl (bump n rate) R) Q U L at1 Hp.none⟩) :
    vc TPl (fun t => (i.1 + 1, t)) [i] (.loop c27_17) Qx s := by
  have hsl := hv.sl
  have pre : ∀ j, PR n ((W.take j).foldl (bump n rate) R) := fun j => (bump_all hr.1 (W.take j) hPR (hnd.sublist (List.take_sublist j W)) fun k hk => hroom k (List.mem_of_mem_take hk)).1
  refine rng_loop W.length (fun j => ⟨fr (PF i tu c [(11, di rate), (239, .sl (W.map nRow)), (240, di W.length), (241, di (j : Nat))]), PH i n g ((W.take j).foldl (bump n rate) R) Q U L at1 Hp.none⟩) (fun _ => True) hw trivial (fun j hj _ => ?_) (fun _ => ?_)
  · have hj' : (j : Int) < W.length := by omega
    have hjn := idx_nn j
    have w1 := idx_next (j := j) (by omega)
    have hgW := nRow_at W j hj
    have hf := fold_take (bump n rate) R W j hj
    have hP := pre j
    have hRl : ((W.take j).foldl (bump n rate) R).length = n.segs.length := hP.rl
    have hrm := hroom _ (List.getElem_mem hj)
    generalize W[j] = k at hgW hf hrm
    obtain ⟨x, _, hx, _, _, _⟩ := hrm
    have hk : k < n.segs.length := by
      rcases Nat.lt_or_ge k n.segs.length with h | h
      · exact h
      · rw [List.getElem?_eq_none h] at hx; cases hx
    have hg := getD_map Seg.row n.segs k hk
    have hx2 : n.segs[k] = x := by rw [List.getElem?_eq_getElem hk] at hx; cases hx; rfl
    rw [hx2] at hg
    generalize hRj : (W.take j).foldl (bump n rate) R = Rj at *
    have hkR : k < Rj.length := by omega
    have hg2 := iRow_at Rj k hkR
    have hb := pr_b hP _ (List.getElem_mem hkR)
    have hgd : Rj.getD k 0 = Rj[k] := by rw [List.getD_eq_getElem?_getD, List.getElem?_eq_getElem hkR]; rfl
    have hk0 := idx_nn k
    have hk1 : (k : Int) < n.segs.length := by omega
    have hk2 : (k : Int) < Rj.length := by omega
    have hsd : segD n rate k = (x.fr, x.to, if x.fr < x.to then rate else -rate) := by unfold segD; rw [hx]
    have hbp : bump n rate Rj k = Rj.set k (Rj[k] + if x.fr < x.to then rate else -rate) := by unfold bump; rw [hgd, hsd]
    rw [hbp] at hf
    generalize Rj[k] = r at hg2 hb hf
    have w2 : IntKind.i64.wrap (r + rate) = r + rate := wrap_i (by omega)
    have w3 : IntKind.i64.wrap (r - rate) = r - rate := wrap_i (by omega)
    have hls : ∀ y, (Rj.set k y).length = Rj.length := fun y => List.length_set
    by_cases c1 : x.fr < x.to
    · rw [if_pos c1] at hf
      simp (config := { maxSteps := 500000 }) only [↓vp, vv, implies_true, forall_const, undef, InI, ↓reduceIte, simprocAttr, c27_17, c27_16, c27_15, TPl, PF, PH, netD, hj', hjn, hk, hk0, hk1, hk2, hkR, Int.toNat_natCast, hgW, hg, hg2, Seg.row, c1, w1, w2, iRow_set]
      exact rng_next hj (weak_eq [] [i, (i.1 + 1, 3), (i.1 + 1, 4), (i.1 + 1, 5), (i.1 + 1, 25), (i.1 + 1, 29), (i.1 + 1, 1005)] (PF i tu c [(11, di rate), (239, .sl (W.map nRow)), (240, di W.length), (241, di (j + 1 : Nat))]) (by simp (config := { maxSteps := 500000 }) only [↓vp, vv, implies_true, forall_const, undef, InI, ↓reduceIte, simprocAttr, coverS, PF, PH, netD, iRow, bRow, w1, hf, hls]) (by simp (config := { maxSteps := 500000 }) only [↓vp, vv, implies_true, forall_const, undef, InI, ↓reduceIte, simprocAttr, refsF, PF, PH, netD, iRow, bRow, w1, hf, hls]) (by simp (config := { maxSteps := 500000 }) only [↓vp, vv, implies_true, forall_const, undef, InI, ↓reduceIte, simprocAttr, PF, PH, netD, iRow, bRow, w1, hf, hls]) (by simp) (by simp (config := { maxSteps := 500000 }) only [↓vp, vv, implies_true, forall_const, undef, InI, ↓reduceIte, simprocAttr, PF, PH, netD, iRow, bRow, w1, hf, hls]; try rfl)) trivial
    · rw [if_neg c1] at hf
      have hf2 : r + -rate = r - rate := by omega
      rw [hf2] at hf
      simp (config := { maxSteps := 500000 }) only [↓vp, vv, implies_true, forall_const, undef, InI, ↓reduceIte, simprocAttr, c27_17, c27_16, c27_15, TPl, PF, PH, netD, hj', hjn, hk, hk0, hk1, hk2, hkR, Int.toNat_natCast, hgW, hg, hg2, Seg.row, c1, w1, w3, iRow_set]
      exact rng_next hj (weak_eq [] [i, (i.1 + 1, 3), (i.1 + 1, 4), (i.1 + 1, 5), (i.1 + 1, 25), (i.1 + 1, 29), (i.1 + 1, 1005)] (PF i tu c [(11, di rate), (239, .sl (W.map nRow)), (240, di W.length), (241, di (j + 1 : Nat))]) (by simp (config := { maxSteps := 500000 }) only [↓vp, vv, implies_true, forall_const, undef, InI, ↓reduceIte, simprocAttr, coverS, PF, PH, netD, iRow, bRow, w1, hf, hls]) (by simp (config := { maxSteps := 500000 }) only [↓vp, vv, implies_true, forall_const, undef, InI, ↓reduceIte, simprocAttr, refsF, PF, PH, netD, iRow, bRow, w1, hf, hls]) (by simp (config := { maxSteps := 500000 }) only [↓vp, vv, implies_true, forall_const, undef, InI, ↓reduceIte, simprocAttr, PF, PH, netD, iRow, bRow, w1, hf, hls]) (by simp) (by simp (config := { maxSteps := 500000 }) only [↓vp, vv, implies_true, forall_const, undef, InI, ↓reduceIte, simprocAttr, PF, PH, netD, iRow, bRow, w1, hf, hls]; try rfl)) trivial
  · rw [List.take_length]
    simp (config := { maxSteps := 500000 }) only [↓vp, vv, implies_true, forall_const, undef, InI, ↓reduceIte, simprocAttr, c27_17, PF, Int.lt_irrefl]
    refine hX _ ⟨?_, ?_, ?_, ?_, ?_, ?_⟩ <;> simp (config := { maxSteps := 500000 }) only [↓vp, vv, implies_true, forall_const, undef, InI, ↓reduceIte, simprocAttr, ]
end Go.Proofs.Ytiaenojpbiahgaa
