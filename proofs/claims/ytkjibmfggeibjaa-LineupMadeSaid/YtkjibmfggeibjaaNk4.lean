
/- Networks: twice, known. -/
import Derived.Test.YtkjibmfggeibjaaNk3
namespace Go.Proofs.Ytkjibmfggeibjaa
open Go
set_option linter.unusedVariables false
set_option linter.unusedSimpArgs false
set_option maxRecDepth 100000

theorem weak1 {F : Fr} {H : Hp} {l : List (Nat × D)} {i : Nm} {e : En} (h1 : coverS F H [] l) (h2 : refsF [i] l = true) (hH : H i = some e) (hc : ClosedH H [i] [i]) : Weak [] ⟨F, H⟩ ⟨fr l, Hp.none.put i e⟩ :=
  weak_eq [] [i] l h1 h2 hc (by simp) (by simp only [Hp.kills, Hp.restr, hH])
def netH (n : Net) : Hp := Hp.none.put (0, 1) ⟨0, 6, [netD n]⟩
theorem getD_any {α : Type} (g : α → D) (l : List α) (k : Nat) (h : k < l.length) : (l.map g).getD k .any = g l[k] := by
  rw [List.getD_eq_getElem?_getD, List.getElem?_map, List.getElem?_eq_getElem h]; rfl
theorem nmsD_map (n : Net) : nmsD n = .agg ((nms4 n).map fun l => .sl (l.map nmRow)) := rfl
theorem nms4_len (n : Net) : (nms4 n).length = 4 := rfl
theorem nms4_small {n : Net} (hz : NetSz n) : ∀ l ∈ nms4 n, l.length ≤ 1000000 := by
  intro l hl
  simp [nms4] at hl
  rcases hl with rfl | rfl | rfl | rfl
  · exact hz.nodes
  · simpa using hz.segs
  · simpa using hz.ports
  · simpa using hz.sts
theorem dup_at {α : Type} {q : α → α → Bool} {l : List α} {i : Nat} (h : i < l.length) : dupAt q l i = (l.take i).any (q l[i]) := by
  unfold dupAt
  rw [List.getElem?_eq_getElem h]
theorem range_at {n j : Nat} (h : j < (List.range n).length) : (List.range n)[j] = j := by simp
set_option maxHeartbeats 8000000 in
theorem twice_c (n : Net) (hz : NetSz n) (nn : Nm) : CallsA Try.prog 146 [n.enc] Hp.none nn (Pu (db (twB n)) Hp.none) := by
  obtain ⟨code, h1, h2⟩ := c146_ok
  refine callsA_of TW_ok mixed (N := fun t => (0, t)) Try.func146 h1 h2 r146_ok [] false js_nil js_nil' (by simp [Try.f146]) ?_
  have hn1 : netOf1 [D.sl (n.nodes.map nmRow), .sl (n.segs.map Seg.row), .sl (n.ports.map Port.row), .sl (n.sts.map Stn.row), di n.vap, di n.set] = some n := netOf1_row n
  generalize hb : (nms4 n).any (dupB eqS) = b
  have htw : twB n = if b = true then true else dupB eqN n.sts := by unfold twB; rw [hb]
  simp (config := { maxSteps := 500000 }) only [↓vp, vv, implies_true, forall_const, undef, InI, ↓reduceIte, simprocAttr, c146, TW, selNet, Net.enc, hn1, hz]
  refine rng_loop 4 (fun j => ⟨fr [(1, .ptr (0, 1) 0 0 0), (10, nmsD n), (11, di j)], netH n⟩) (fun j => ((nms4 n).drop j).any (dupB eqS) = b) (weak1 (by simp (config := { maxSteps := 500000 }) only [↓vp, vv, implies_true, forall_const, undef, InI, ↓reduceIte, simprocAttr, coverS]) (by simp (config := { maxSteps := 500000 }) only [↓vp, vv, implies_true, forall_const, undef, InI, ↓reduceIte, simprocAttr, refsF, nmsD]) (by simp (config := { maxSteps := 500000 }) only [↓vp, vv, implies_true, forall_const, undef, InI, ↓reduceIte, simprocAttr, netD]) (by simp (config := { maxSteps := 500000 }) only [↓vp, vv, implies_true, forall_const, undef, InI, ↓reduceIte, simprocAttr, ])) hb (fun j hj he => ?_) (fun he => ?_)
  · have hj' : (j : Int) < 4 := by omega
    have hn := idx_nn j
    have w1 := idx_next (j := j) (by omega)
    have hjl : j < (nms4 n).length := by rw [nms4_len]; exact hj
    obtain ⟨hf, ht⟩ := drop_any hjl he
    have hg := getD_any (fun l => D.sl (List.map nmRow l)) (nms4 n) j hjl
    have hl := nms4_small hz _ (List.getElem_mem hjl)
    generalize (nms4 n)[j] = l at hf ht hg hl
    have hcl : 1 * j + 1 ≤ ((nms4 n).map fun l => D.sl (l.map nmRow)).length := by rw [List.length_map, nms4_len]; omega
    have hcl2 : j * 1 + 1 ≤ (nms4 n).length := by rw [nms4_len]; omega
    generalize hb2 : dupB eqS l = b2 at hf ht
    simp (config := { maxSteps := 500000 }) only [↓vp, vv, implies_true, forall_const, undef, InI, ↓reduceIte, simprocAttr, c146_6, c146_5, netH, nmsD_map, hj', hn, Int.toNat_natCast, hcl, hcl2, hg, Nat.mul_one]
    refine ⟨by omega, ?_⟩
    refine rng_loop l.length (fun i => ⟨fr [(1, .ptr (0, 1) 0 0 0), (10, nmsD n), (11, di j), (4, .sl (l.map nmRow)), (14, .sl (l.map nmRow)), (15, di l.length), (16, di i)], netH n⟩) (fun i => ((List.range l.length).drop i).any (dupAt eqS l) = b2) (weak1 (by simp (config := { maxSteps := 500000 }) only [↓vp, vv, implies_true, forall_const, undef, InI, ↓reduceIte, simprocAttr, coverS, nmsD_map]) (by simp (config := { maxSteps := 500000 }) only [↓vp, vv, implies_true, forall_const, undef, InI, ↓reduceIte, simprocAttr, refsF, nmsD]) (by simp (config := { maxSteps := 500000 }) only [↓vp, vv, implies_true, forall_const, undef, InI, ↓reduceIte, simprocAttr, netD]) (by simp (config := { maxSteps := 500000 }) only [↓vp, vv, implies_true, forall_const, undef, InI, ↓reduceIte, simprocAttr, netD])) hb2 (fun i hi he2 => ?_) (fun he2 => ?_)
    · have hi' : (i : Int) < l.length := by omega
      have hin := idx_nn i
      have w2 := idx_next (j := i) (by omega)
      have hil : i < (List.range l.length).length := by simpa using hi
      obtain ⟨hf2, ht2⟩ := drop_any hil he2
      rw [range_at, dup_at hi] at hf2 ht2
      have hg2 := getD_map nmRow l i hi
      have hix := idxA_lt (eqS l[i]) l 0 i hi (Int.le_refl _) (eqS_self _)
      rw [Int.zero_add] at hix
      have hlo : lsOf nmOf1 (l.map nmRow) = some l := lsOf_map nmOf1_row l
      generalize l[i] = x at hf2 ht2 hg2 hix
      cases hd : (l.take i).any (eqS x) with
      | true =>
        have e1 : b2 = true := hf2 hd
        have e2 : b = true := hf e1
        have hix' := hix.2 hd
        have htw' : twB n = true := by rw [htw, e2]; rfl
        simp (config := { maxSteps := 500000 }) only [↓vp, vv, implies_true, forall_const, undef, InI, ↓reduceIte, simprocAttr, c146, r146, c146_1, c146_10, c146_11, c146_12, c146_2, c146_3, c146_4, c146_5, c146_6, c146_7, c146_8, c146_9, TW, selIdx, netH, netD, hi', hin, Int.toNat_natCast, hg2, nmRow, hlo, hl, hix', htw', Pu, decide_true, decide_false]
      | false =>
        have hix' : ¬ idxA (eqS x) 0 l < (i : Int) := fun h => by rw [hix.1 h] at hd; cases hd
        simp (config := { maxSteps := 500000 }) only [↓vp, vv, implies_true, forall_const, undef, InI, ↓reduceIte, simprocAttr, c146, r146, c146_1, c146_10, c146_11, c146_12, c146_2, c146_3, c146_4, c146_5, c146_6, c146_7, c146_8, c146_9, TW, selIdx, netH, netD, hi', hin, Int.toNat_natCast, hg2, nmRow, hlo, hl, hix', w2, decide_true, decide_false]
        exact rng_next hi (weak1 (by simp (config := { maxSteps := 500000 }) only [↓vp, vv, implies_true, forall_const, undef, InI, ↓reduceIte, simprocAttr, coverS, nmsD, nms4, w2]) (by simp (config := { maxSteps := 500000 }) only [↓vp, vv, implies_true, forall_const, undef, InI, ↓reduceIte, simprocAttr, refsF, nmsD, nms4]) (by simp (config := { maxSteps := 500000 }) only [↓vp, vv, implies_true, forall_const, undef, InI, ↓reduceIte, simprocAttr, netD]) (by simp (config := { maxSteps := 500000 }) only [↓vp, vv, implies_true, forall_const, undef, InI, ↓reduceIte, simprocAttr, netD])) (ht2 hd)
    · have e1 : b2 = false := drop_any_end (by simp) he2
      simp (config := { maxSteps := 500000 }) only [↓vp, vv, implies_true, forall_const, undef, InI, ↓reduceIte, simprocAttr, c146, r146, c146_1, c146_10, c146_11, c146_12, c146_2, c146_3, c146_4, c146_5, c146_6, c146_7, c146_8, c146_9, netH, netD, Int.lt_irrefl, w1, decide_true, decide_false]
      exact rng_next hj (weak1 (by simp (config := { maxSteps := 500000 }) only [↓vp, vv, implies_true, forall_const, undef, InI, ↓reduceIte, simprocAttr, coverS, nmsD, nms4, w1]) (by simp (config := { maxSteps := 500000 }) only [↓vp, vv, implies_true, forall_const, undef, InI, ↓reduceIte, simprocAttr, refsF, nmsD, nms4]) (by simp (config := { maxSteps := 500000 }) only [↓vp, vv, implies_true, forall_const, undef, InI, ↓reduceIte, simprocAttr, netD]) (by simp (config := { maxSteps := 500000 }) only [↓vp, vv, implies_true, forall_const, undef, InI, ↓reduceIte, simprocAttr, netD])) (ht e1)
  · have e1 : b = false := drop_any_end (nms4_len n).symm he
    rw [e1] at htw
    simp only [Bool.false_eq_true, if_false] at htw
    rw [htw]
    generalize hb3 : dupB eqN n.sts = b3
    simp (config := { maxSteps := 500000 }) only [↓vp, vv, implies_true, forall_const, undef, InI, ↓reduceIte, simprocAttr, c146_6, c146_12, netH, netD, Int.lt_irrefl]
    refine rng_loop n.sts.length (fun i => ⟨fr [(1, .ptr (0, 1) 0 0 0), (29, .sl (n.sts.map Stn.row)), (30, di n.sts.length), (31, di i)], netH n⟩) (fun i => ((List.range n.sts.length).drop i).any (dupAt eqN n.sts) = b3) (weak1 (by simp (config := { maxSteps := 500000 }) only [↓vp, vv, implies_true, forall_const, undef, InI, ↓reduceIte, simprocAttr, coverS]) (by simp (config := { maxSteps := 500000 }) only [↓vp, vv, implies_true, forall_const, undef, InI, ↓reduceIte, simprocAttr, refsF]) (by simp (config := { maxSteps := 500000 }) only [↓vp, vv, implies_true, forall_const, undef, InI, ↓reduceIte, simprocAttr, netD]) (by simp (config := { maxSteps := 500000 }) only [↓vp, vv, implies_true, forall_const, undef, InI, ↓reduceIte, simprocAttr, ])) hb3 (fun i hi he2 => ?_) (fun he2 => ?_)
    · have hzs := hz.sts
      have hi' : (i : Int) < n.sts.length := by omega
      have hin := idx_nn i
      have w2 := idx_next (j := i) (by omega)
      have hil : i < (List.range n.sts.length).length := by simpa using hi
      obtain ⟨hf2, ht2⟩ := drop_any hil he2
      rw [range_at, dup_at hi] at hf2 ht2
      have hg2 := getD_map Stn.row n.sts i hi
      have hix := idxA_lt (eqN n.sts[i]) n.sts 0 i hi (Int.le_refl _) (by simp [eqN])
      rw [Int.zero_add] at hix
      generalize n.sts[i] = x at hf2 ht2 hg2 hix
      have hq : QOk Try.prog true 5 (qTw 184 [x.row]) 184 [x.row] (n.sts.map Stn.row) := by
        refine ⟨f184_ok, by simp; omega, fun r hr => ?_⟩
        obtain ⟨y, _, rfl⟩ := List.mem_map.1 hr
        exact ⟨rfl, y.done, fun h => Bool.noConfusion h, fun nn => tw1_c y x nn⟩
      have ho : outI (fun r => qTw 184 [x.row] (elV true r)) (n.sts.map Stn.row) = di (idxA (eqN x) 0 n.sts) := by
        unfold outI
        rw [idxOf_map Stn.row _ (eqN x) (fun y => rfl)]
      simp (config := { maxSteps := 500000 }) only [↓vp, vv, implies_true, forall_const, undef, InI, ↓reduceIte, simprocAttr, c146_10, c146_9, netH, netD, hi', hin, Int.toNat_natCast, hg2, Stn.row]
      refine vc_wk ((weak_ip 8 (0, 8) 0 5 x.row (by simp (config := { maxSteps := 500000 }) only [↓vp, vv, implies_true, forall_const, undef, InI, ↓reduceIte, simprocAttr, ]) (by simp (config := { maxSteps := 500000 }) only [↓vp, vv, implies_true, forall_const, undef, InI, ↓reduceIte, simprocAttr, Stn.row]) (by simp (config := { maxSteps := 500000 }) only [↓vp, vv, implies_true, forall_const, undef, InI, ↓reduceIte, simprocAttr, Stn.row]) (by simp)).trans (weak1 (l := [(1, .ptr (0, 1) 0 0 0), (7, di i), (8, .ip x.row), (29, .sl (n.sts.map Stn.row)), (30, di n.sts.length), (31, di i)]) (i := (0, 1)) (e := ⟨0, 6, [netD n]⟩) (by simp (config := { maxSteps := 500000 }) only [↓vp, vv, implies_true, forall_const, undef, InI, ↓reduceIte, simprocAttr, coverS]) (by simp (config := { maxSteps := 500000 }) only [↓vp, vv, implies_true, forall_const, undef, InI, ↓reduceIte, simprocAttr, refsF]) (by simp (config := { maxSteps := 500000 }) only [↓vp, vv, implies_true, forall_const, undef, InI, ↓reduceIte, simprocAttr, netD]) (by simp (config := { maxSteps := 500000 }) only [↓vp, vv, implies_true, forall_const, undef, InI, ↓reduceIte, simprocAttr, ]))) ?_
      cases hd : (n.sts.take i).any (eqN x) with
      | true =>
        have e1 : b3 = true := hf2 hd
        have hix' := hix.2 hd
        simp (config := { maxSteps := 500000 }) only [↓vp, vv, implies_true, forall_const, undef, InI, ↓reduceIte, simprocAttr, c146_7, r146, TW, netD, selQ, ipsOf, hq, ho, hix', e1, Pu, decide_true, decide_false]
      | false =>
        have hix' : ¬ idxA (eqN x) 0 n.sts < (i : Int) := fun h => by rw [hix.1 h] at hd; cases hd
        simp (config := { maxSteps := 500000 }) only [↓vp, vv, implies_true, forall_const, undef, InI, ↓reduceIte, simprocAttr, c146_7, c146_8, TW, netD, selQ, ipsOf, hq, ho, hix', w2, decide_true, decide_false]
        exact rng_next hi (weak1 (by simp (config := { maxSteps := 500000 }) only [↓vp, vv, implies_true, forall_const, undef, InI, ↓reduceIte, simprocAttr, coverS, w2]) (by simp (config := { maxSteps := 500000 }) only [↓vp, vv, implies_true, forall_const, undef, InI, ↓reduceIte, simprocAttr, refsF]) (by simp (config := { maxSteps := 500000 }) only [↓vp, vv, implies_true, forall_const, undef, InI, ↓reduceIte, simprocAttr, netD]) (by simp (config := { maxSteps := 500000 }) only [↓vp, vv, implies_true, forall_const, undef, InI, ↓reduceIte, simprocAttr, netD])) (ht2 hd)
    · have e1 : b3 = false := drop_any_end (by simp) he2
      simp (config := { maxSteps := 500000 }) only [↓vp, vv, implies_true, forall_const, undef, InI, ↓reduceIte, simprocAttr, c146_10, c146_11, r146, netH, netD, Int.lt_irrefl, e1, Pu, decide_true, decide_false]
end Go.Proofs.Ytkjibmfggeibjaa
