/- PackMoves: Nk4 Nk5 Nk6 Nk7 CmL. -/
import Derived.Test.YtehmmnnmkapfeaaDoorKv8
import Derived.Test.YtehmmnnmkapfeaaDoorKv6
set_option linter.unusedSimpArgs false
set_option linter.unusedVariables false
set_option maxRecDepth 100000

/- Networks: twice, known. -/
namespace Go.Proofs.YtehmmnnmkapfeaaDoor
open Go
theorem weak1 {F : Fr} {H : Hp} {l : List (Nat × D)} {i : Nm} {e : En} (h1 : coverS F H [] l) (h2 : refsF [i] l = true) (hH : H i = some e) (hc : ClosedH H [i] [i]) : Weak [] ⟨F, H⟩ ⟨fr l, Hp.none.put i e⟩ :=
 weak_eq [] [i] l h1 h2 hc (by simp) (by simp only [Hp.kills, Hp.restr, hH])
def netH (n : Net) : Hp := Hp.none.put (0, 1) ⟨0, 6, [netD n]⟩
theorem getD_any {α : Type} (g : α → D) (l : List α) (k : Nat) (h : k < l.length) : (l.map g).getD k .any = g l[k] := by
 rw [List.getD_eq_getElem?_getD, List.getElem?_map, List.getElem?_eq_getElem h]; rfl
theorem nmsD_map (n : Net) : nmsD n = .agg ((nms4 n).map fun l => .sl (l.map nmRow)) := rfl
theorem nms4_len (n : Net) : (nms4 n).length = 4 := rfl
theorem nms4_small {n : Net} (hz : NetSz n) : ∀ l ∈ nms4 n, l.length ≤ 1000000 := by
 intro l hl
 simp [nms4] at hl
 rcases hl with rfl | rfl | rfl | rfl
 ·exact hz.nodes
 ·simpa using hz.segs
 ·simpa using hz.ports
 ·simpa using hz.sts
theorem dup_at {α : Type} {q : α → α → Bool} {l : List α} {i : Nat} (h : i < l.length) : dupAt q l i = (l.take i).any (q l[i]) := by
 unfold dupAt
 rw [List.getElem?_eq_getElem h]
theorem range_at {n j : Nat} (h : j < (List.range n).length) : (List.range n)[j] = j := by simp
set_option maxHeartbeats 8000000 in
theorem twice_c (n : Net) (hz : NetSz n) (nn : Nm) : CallsA Tryd.prog 114 [n.enc] Hp.none nn (Pu (db (twB n)) Hp.none) := by
 obtain ⟨code, h1, h2⟩ := c114_ok
 refine callsA_of TW_ok mixed (N := fun t => (0, t)) Tryd.func114 h1 h2 r114_ok [] false js_nil js_nil' (by simp [Tryd.f114]) ?_
 have hn1 := netOf1_x n
 generalize hb : (nms4 n).any (dupB eqS) = b
 have htw : twB n = if b = true then true else dupB eqN n.sts := by unfold twB; rw [hb]
 simp (maxSteps:=500000) only [↓vp, vv, ↓reduceIte, simprocAttr, c114, TW, selNet, Net.enc, hn1, hz]
 refine rng_loop 4 (fun j => ⟨fr [(1, .ptr (0, 1) 0 0 0), (10, nmsD n), (11, di j)], netH n⟩) (fun j => ((nms4 n).drop j).any (dupB eqS) = b) (weak1 (by simp only [↓vp, vv, ↓reduceIte, simprocAttr, coverS]) (by simp only [↓vp, vv, ↓reduceIte, simprocAttr, refsF, nmsD]) (by simp only [↓vp, vv, ↓reduceIte, simprocAttr, netD]) (by simp only [↓vp, vv, ↓reduceIte, simprocAttr, ])) hb (fun j hj he => ?_) (fun he => ?_)
 ·have hj' : (j : Int) < 4 := by omega
  have hn := idx_nn j
  have w1 := idx_next (j := j) (by omega)
  have hjl : j < (nms4 n).length := by rw [nms4_len]; exact hj
  obtain ⟨hf, ht⟩ := drop_any hjl he
  have hg := getD_any (fun l => D.sl (List.map nmRow l)) (nms4 n) j hjl
  have hl := nms4_small hz _ (List.getElem_mem hjl)
  generalize (nms4 n)[j] = l at hf ht hg hl
  have hcl : 1 * j + 1 ≤ ((nms4 n).map fun l => D.sl (l.map nmRow)).length := by rw [List.length_map, nms4_len]; omega
  have hcl2 : j * 1 + 1 ≤ (nms4 n).length := by rw [nms4_len]; omega
  generalize hb2 : dupB eqS l = b2 at hf ht
  simp (maxSteps:=500000) only [↓vp, vv, ↓reduceIte, simprocAttr, c114_6, c114_5, netH, nmsD_map, hj', hn, Int.toNat_natCast, hcl, hcl2, hg, Nat.mul_one]
  refine ⟨by omega, ?_⟩
  refine rng_loop l.length (fun i => ⟨fr [(1, .ptr (0, 1) 0 0 0), (10, nmsD n), (11, di j), (4, .sl (l.map nmRow)), (14, .sl (l.map nmRow)), (15, di l.length), (16, di i)], netH n⟩) (fun i => ((List.range l.length).drop i).any (dupAt eqS l) = b2) (weak1 (by simp only [↓vp, vv, ↓reduceIte, simprocAttr, coverS, nmsD_map]) (by simp only [↓vp, vv, ↓reduceIte, simprocAttr, refsF, nmsD]) (by simp only [↓vp, vv, ↓reduceIte, simprocAttr, netD]) (by simp only [↓vp, vv, ↓reduceIte, simprocAttr, netD])) hb2 (fun i hi he2 => ?_) (fun he2 => ?_)
  ·have hi' : (i : Int) < l.length := by omega
   have hin := idx_nn i
   have w2 := idx_next (j := i) (by omega)
   have hil : i < (List.range l.length).length := by simpa using hi
   obtain ⟨hf2, ht2⟩ := drop_any hil he2
   rw [range_at, dup_at hi] at hf2 ht2
   have hg2 := getD_map nmRow l i hi
   have hix := idxA_lt (eqS l[i]) l 0 i hi (Int.le_refl _) (eqS_self _)
   rw [Int.zero_add] at hix
   have hlo : lsOf nmOf1 (l.map nmRow) = some l := lsOf_map nmOf1_row l
   generalize l[i] = x at hf2 ht2 hg2 hix
   cases hd : (l.take i).any (eqS x) with
   | true =>
    have e1 : b2 = true := hf2 hd
    have e2 : b = true := hf e1
    have hix' := hix.2 hd
    have htw' : twB n = true := by rw [htw, e2]; rfl
    simp (maxSteps:=500000) only [↓vp, vv, ↓reduceIte, simprocAttr, c114, r114, c114_1, c114_10, c114_11, c114_12, c114_2, c114_3, c114_4, c114_5, c114_6, c114_7, c114_8, c114_9, TW, selIdx, netH, netD, hi', hin, Int.toNat_natCast, hg2, nmRow, hlo, hl, hix', htw', Pu, decide_true, decide_false]
   | false =>
    have hix' : ¬ idxA (eqS x) 0 l < (i : Int) := fun h => by rw [hix.1 h] at hd; cases hd
    simp (maxSteps:=500000) only [↓vp, vv, ↓reduceIte, simprocAttr, c114, r114, c114_1, c114_10, c114_11, c114_12, c114_2, c114_3, c114_4, c114_5, c114_6, c114_7, c114_8, c114_9, TW, selIdx, netH, netD, hi', hin, Int.toNat_natCast, hg2, nmRow, hlo, hl, hix', w2, decide_true, decide_false]
    exact rng_next hi (weak1 (by simp only [↓vp, vv, ↓reduceIte, simprocAttr, coverS, nmsD, nms4, w2]) (by simp only [↓vp, vv, ↓reduceIte, simprocAttr, refsF, nmsD, nms4]) (by simp only [↓vp, vv, ↓reduceIte, simprocAttr, netD]) (by simp only [↓vp, vv, ↓reduceIte, simprocAttr, netD])) (ht2 hd)
  ·have e1 : b2 = false := drop_any_end (by simp) he2
   simp (maxSteps:=500000) only [↓vp, vv, ↓reduceIte, simprocAttr, c114, r114, c114_1, c114_10, c114_11, c114_12, c114_2, c114_3, c114_4, c114_5, c114_6, c114_7, c114_8, c114_9, netH, netD, Int.lt_irrefl, w1, decide_true, decide_false]
   exact rng_next hj (weak1 (by simp only [↓vp, vv, ↓reduceIte, simprocAttr, coverS, nmsD, nms4, w1]) (by simp only [↓vp, vv, ↓reduceIte, simprocAttr, refsF, nmsD, nms4]) (by simp only [↓vp, vv, ↓reduceIte, simprocAttr, netD]) (by simp only [↓vp, vv, ↓reduceIte, simprocAttr, netD])) (ht e1)
 ·have e1 : b = false := drop_any_end (nms4_len n).symm he
  rw [e1] at htw
  simp only [Bool.false_eq_true, if_false] at htw
  rw [htw]
  generalize hb3 : dupB eqN n.sts = b3
  simp (maxSteps:=500000) only [↓vp, vv, ↓reduceIte, simprocAttr, c114_6, c114_12, netH, netD, Int.lt_irrefl]
  refine rng_loop n.sts.length (fun i => ⟨fr [(1, .ptr (0, 1) 0 0 0), (29, .sl (n.sts.map Stn.row)), (30, di n.sts.length), (31, di i)], netH n⟩) (fun i => ((List.range n.sts.length).drop i).any (dupAt eqN n.sts) = b3) (weak1 (by simp only [↓vp, vv, ↓reduceIte, simprocAttr, coverS]) (by simp only [↓vp, vv, ↓reduceIte, simprocAttr, refsF]) (by simp only [↓vp, vv, ↓reduceIte, simprocAttr, netD]) (by simp only [↓vp, vv, ↓reduceIte, simprocAttr, ])) hb3 (fun i hi he2 => ?_) (fun he2 => ?_)
  ·have hzs := hz.sts
   have hi' : (i : Int) < n.sts.length := by omega
   have hin := idx_nn i
   have w2 := idx_next (j := i) (by omega)
   have hil : i < (List.range n.sts.length).length := by simpa using hi
   obtain ⟨hf2, ht2⟩ := drop_any hil he2
   rw [range_at, dup_at hi] at hf2 ht2
   have hg2 := getD_map Stn.row n.sts i hi
   have hix := idxA_lt (eqN n.sts[i]) n.sts 0 i hi (Int.le_refl _) (by simp [eqN])
   rw [Int.zero_add] at hix
   generalize n.sts[i] = x at hf2 ht2 hg2 hix
   have hq : QOk Tryd.prog true 5 (qTw 140 [x.row]) 140 [x.row] (n.sts.map Stn.row) := by
    refine ⟨f140_ok, by simp; omega, fun r hr => ?_⟩
    obtain ⟨y, _, rfl⟩ := List.mem_map.1 hr
    exact ⟨rfl, y.done, fun h => Bool.noConfusion h, fun nn => tw1_c y x nn⟩
   have ho : outI (fun r => qTw 140 [x.row] (elV true r)) (n.sts.map Stn.row) = di (idxA (eqN x) 0 n.sts) := by
    unfold outI
    rw [idxOf_map Stn.row _ (eqN x) (fun y => rfl)]
   simp (maxSteps:=500000) only [↓vp, vv, ↓reduceIte, simprocAttr, c114_10, c114_9, netH, netD, hi', hin, Int.toNat_natCast, hg2, Stn.row]
   refine vc_wk ((weak_ip 8 (0, 8) 0 5 x.row (by simp only [↓vp, vv, ↓reduceIte, simprocAttr, ]) (by simp only [↓vp, vv, ↓reduceIte, simprocAttr, Stn.row]) (by simp only [↓vp, vv, ↓reduceIte, simprocAttr, Stn.row]) (by simp)).trans (weak1 (l := [(1, .ptr (0, 1) 0 0 0), (7, di i), (8, .ip x.row), (29, .sl (n.sts.map Stn.row)), (30, di n.sts.length), (31, di i)]) (i := (0, 1)) (e := ⟨0, 6, [netD n]⟩) (by simp only [↓vp, vv, ↓reduceIte, simprocAttr, coverS]) (by simp only [↓vp, vv, ↓reduceIte, simprocAttr, refsF]) (by simp only [↓vp, vv, ↓reduceIte, simprocAttr, netD]) (by simp only [↓vp, vv, ↓reduceIte, simprocAttr, ]))) ?_
   cases hd : (n.sts.take i).any (eqN x) with
   | true =>
    have e1 : b3 = true := hf2 hd
    have hix' := hix.2 hd
    simp (maxSteps:=500000) only [↓vp, vv, ↓reduceIte, simprocAttr, c114_7, r114, TW, netD, selQ, ipsOf, hq, ho, hix', e1, Pu, decide_true, decide_false]
   | false =>
    have hix' : ¬ idxA (eqN x) 0 n.sts < (i : Int) := fun h => by rw [hix.1 h] at hd; cases hd
    simp (maxSteps:=500000) only [↓vp, vv, ↓reduceIte, simprocAttr, c114_7, c114_8, TW, netD, selQ, ipsOf, hq, ho, hix', w2, decide_true, decide_false]
    exact rng_next hi (weak1 (by simp only [↓vp, vv, ↓reduceIte, simprocAttr, coverS, w2]) (by simp only [↓vp, vv, ↓reduceIte, simprocAttr, refsF]) (by simp only [↓vp, vv, ↓reduceIte, simprocAttr, netD]) (by simp only [↓vp, vv, ↓reduceIte, simprocAttr, netD])) (ht2 hd)
  ·have e1 : b3 = false := drop_any_end (by simp) he2
   simp (maxSteps:=500000) only [↓vp, vv, ↓reduceIte, simprocAttr, c114_10, c114_11, r114, netH, netD, Int.lt_irrefl, e1, Pu, decide_true, decide_false]
def iRow (k : Int) : List D := [di k]
def unk (n : Net) (k : Int) : Bool := if decide (k < 0) = true then true else decide ((n.nodes.length : Int) ≤ k)
def endsOf (s : Seg) : List Int := [s.fr, s.to]
def allIx (n : Net) : List Int := (n.segs.flatMap endsOf ++ n.ports.map (·.node)) ++ n.sts.map (·.node)
def knB (n : Net) : Bool := !((allIx n).any (unk n))
set_option maxHeartbeats 4000000 in
theorem kn1_c (n : Net) (k : Int) (nn : Nm) : CallsA Tryd.prog 141 [di k, .ip (netD n)] Hp.none nn (Pu (db (unk n k)) Hp.none) := by
 obtain ⟨code, h1, h2⟩ := c141_ok
 refine callsA_of (T0_ok _) mixed (N := fun t => (0, t)) Tryd.func141 h1 h2 r141_ok [] false js_nil js_nil' (by simp [Tryd.f141]) ?_
 cases a1 : decide (k < 0) <;> simp (maxSteps:=500000) only [↓vp, vv, ↓reduceIte, simprocAttr, c141, r141, netD, a1, unk, Pu]
def intOf1 : List D → Option Int
 | [.v (.int .i64 k)] => some k
 | _ => Option.none
def TK (P : Program) (n : Net) : Tbl := tc 73 (rowPu (selQ P false 1 (fun g l => qRow intOf1 (unk n)) outC)) T0
theorem TK_ok (n : Net) : TblOk Tryd.prog (TK Tryd.prog n) := by
 refine tc_pu f73_ok (fun args pre d h hp nn => ?_) (T0_ok _)
 unfold selQ at h
 split at h
 ·split at h
  ·rename_i hi
   cases h
   rw [ipsOf_eq hi]
   exact hasF_I _ _ _ _ hp nn
  ·cases h
 ·cases h
def KnHp (n : Net) (g : Nat) (l : List Int) : Hp := (Hp.none.put (0, 1000) ⟨g, 1, l.map iRow⟩).put (0, 1) ⟨0, 6, [netD n]⟩
theorem take_fm {α β : Type} (f : α → List β) {l : List α} {j : Nat} (h : j < l.length) : (l.take (j + 1)).flatMap f = (l.take j).flatMap f ++ f l[j] := by
 rw [← List.take_append_getElem h, List.flatMap_append]; simp
theorem take_mp {α β : Type} (f : α → β) {l : List α} {j : Nat} (h : j < l.length) : (l.take (j + 1)).map f = (l.take j).map f ++ [f l[j]] := by
 rw [← List.take_append_getElem h, List.map_append]; rfl
set_option maxHeartbeats 8000000 in
theorem known_c (n : Net) (hz : NetSz n) (nn : Nm) : CallsA Tryd.prog 115 [n.enc] Hp.none nn (Pu (db (knB n)) Hp.none) := by
 obtain ⟨code, h1, h2⟩ := c115_ok
 refine callsA_of (TK_ok n) mixed (N := fun t => (0, t)) Tryd.func115 h1 h2 r115_ok [] false js_nil js_nil' (by simp [Tryd.f115]) ?_
 obtain ⟨hz0, hz1, hz2, hz3, _⟩ := hz
 simp (maxSteps:=500000) only [↓vp, vv, ↓reduceIte, simprocAttr, c115, Net.enc]
 rw [vc_loop]
 refine ⟨fun m s => ∃ (j g : Nat), j + m = n.segs.length ∧ s = ⟨fr [(1, .ptr (0, 1) 0 0 0), (3, .own (0, 1000) g 0 ((n.segs.take j).flatMap endsOf).length), (11, .sl (n.segs.map Seg.row)), (12, di n.segs.length), (13, di j)], KnHp n g ((n.segs.take j).flatMap endsOf)⟩, ⟨n.segs.length, _, (weak_own 3 (0, 1000) 1 (by simp only [↓vp, vv, ↓reduceIte, simprocAttr, ]) (by simp only [↓vp, vv, ↓reduceIte, simprocAttr, ])).trans (weak_eq [] [(0, 1), (0, 1000)] [(1, .ptr (0, 1) 0 0 0), (3, .own (0, 1000) 0 0 (([] : List Int)).length), (11, .sl (n.segs.map Seg.row)), (12, di n.segs.length), (13, di 0)] (by simp only [↓vp, vv, ↓reduceIte, simprocAttr, coverS]) (by simp only [↓vp, vv, ↓reduceIte, simprocAttr, refsF]) (by simp only [↓vp, vv, ↓reduceIte, simprocAttr, netD, iRow, KnHp]) (by simp) (by simp only [↓vp, vv, ↓reduceIte, simprocAttr, netD, iRow, KnHp]; try rfl)), 0, 0, by omega, by simp [KnHp, netD]⟩, ?_⟩
 rintro m s ⟨j, g1, hj, rfl⟩
 by_cases hlt : j < n.segs.length
 ·have hlt' : (j : Int) < n.segs.length := by omega
  have hn := idx_nn j
  have hg := getD_map Seg.row n.segs j hlt
  have w1 := idx_next (j := j) (by omega)
  have htk := take_fm endsOf hlt
  generalize n.segs[j] = x at hg htk
  have hlen : ((n.segs.take j).flatMap endsOf).length ≤ 10000000 := by
   simp only [List.length_append, List.length_map, List.length_flatMap, endsOf, List.length_cons, List.length_nil, List.map_const', List.sum_replicate_nat, List.length_take]
   omega
  have hnew : (n.segs.take (j + 1)).flatMap endsOf = (n.segs.take j).flatMap endsOf ++ endsOf x := by rw [htk]
  generalize (n.segs.take j).flatMap endsOf = K at hlen hnew
  simp (maxSteps:=500000) only [↓vp, vv, ↓reduceIte, simprocAttr, c115_2, c115_1, KnHp, netD, iRow, hlt', hn, Int.toNat_natCast, hg, Seg.row, w1]
  refine ⟨⟨by omega, by omega⟩, m - 1, _, by omega, weak_eq [] [(0, 1), (0, 1000)] [(1, .ptr (0, 1) 0 0 0), (3, .own (0, 1000) (g1 + 1) 0 (K.length + 2)), (11, .sl (n.segs.map Seg.row)), (12, di n.segs.length), (13, di (j + 1 : Nat))] (by simp only [↓vp, vv, ↓reduceIte, simprocAttr, coverS, Seg.row, w1]) (by simp only [↓vp, vv, ↓reduceIte, simprocAttr, refsF]) (by simp only [↓vp, vv, ↓reduceIte, simprocAttr, netD, iRow]) (by simp) (by simp only [↓vp, vv, ↓reduceIte, simprocAttr, netD, iRow]; try rfl), j + 1, g1 + 1, by omega, ?_⟩
  have hnl := congrArg List.length hnew
  simp [endsOf] at hnl
  simp only [hnew]
  simp [KnHp, netD, iRow, endsOf, hnl]
 ·have hlt' : ¬ (j : Int) < n.segs.length := by omega
  obtain rfl : j = n.segs.length := by omega
  simp only [List.take_length]
  simp (maxSteps:=500000) only [↓vp, vv, ↓reduceIte, simprocAttr, c115_2, c115_9, KnHp, netD, hlt', Int.lt_irrefl]
  rw [vc_loop]
  refine ⟨fun m s => ∃ (j g : Nat), j + m = n.ports.length ∧ s = ⟨fr [(1, .ptr (0, 1) 0 0 0), (3, .own (0, 1000) g 0 (n.segs.flatMap endsOf ++ (n.ports.take j).map (·.node)).length), (26, .sl (n.ports.map Port.row)), (27, di n.ports.length), (28, di j)], KnHp n g (n.segs.flatMap endsOf ++ (n.ports.take j).map (·.node))⟩, ⟨n.ports.length, _, (weak_eq [] [(0, 1), (0, 1000)] [(1, .ptr (0, 1) 0 0 0), (3, .own (0, 1000) g1 0 (n.segs.flatMap endsOf).length), (26, .sl (n.ports.map Port.row)), (27, di n.ports.length), (28, di 0)] (by simp only [↓vp, vv, ↓reduceIte, simprocAttr, coverS]) (by simp only [↓vp, vv, ↓reduceIte, simprocAttr, refsF]) (by simp only [↓vp, vv, ↓reduceIte, simprocAttr, netD, iRow, KnHp]) (by simp) (by simp only [↓vp, vv, ↓reduceIte, simprocAttr, netD, iRow, KnHp]; try rfl)), 0, g1, by omega, by simp [KnHp, netD, iRow]⟩, ?_⟩
  rintro m s ⟨j, g2, hj, rfl⟩
  by_cases hlt : j < n.ports.length
  ·have hlt' : (j : Int) < n.ports.length := by omega
   have hn := idx_nn j
   have hg := getD_map Port.row n.ports j hlt
   have w1 := idx_next (j := j) (by omega)
   have htk := take_mp (fun p : Port => p.node) hlt
   generalize n.ports[j] = x at hg htk
   have hlen : (n.segs.flatMap endsOf ++ (n.ports.take j).map (·.node)).length ≤ 10000000 := by
    simp only [List.length_append, List.length_map, List.length_flatMap, endsOf, List.length_cons, List.length_nil, List.map_const', List.sum_replicate_nat, List.length_take]
    omega
   have hnew : n.segs.flatMap endsOf ++ (n.ports.take (j + 1)).map (·.node) = n.segs.flatMap endsOf ++ (n.ports.take j).map (·.node) ++ [x.node] := by rw [htk]; simp
   generalize n.segs.flatMap endsOf ++ (n.ports.take j).map (·.node) = K at hlen hnew
   simp (maxSteps:=500000) only [↓vp, vv, ↓reduceIte, simprocAttr, c115_4, c115_3, KnHp, netD, iRow, hlt', hn, Int.toNat_natCast, hg, Port.row, w1]
   refine ⟨⟨by omega, by omega⟩, m - 1, _, by omega, weak_eq [] [(0, 1), (0, 1000)] [(1, .ptr (0, 1) 0 0 0), (3, .own (0, 1000) (g2 + 1) 0 (K.length + 1)), (26, .sl (n.ports.map Port.row)), (27, di n.ports.length), (28, di (j + 1 : Nat))] (by simp only [↓vp, vv, ↓reduceIte, simprocAttr, coverS, Port.row, w1]) (by simp only [↓vp, vv, ↓reduceIte, simprocAttr, refsF]) (by simp only [↓vp, vv, ↓reduceIte, simprocAttr, netD, iRow]) (by simp) (by simp only [↓vp, vv, ↓reduceIte, simprocAttr, netD, iRow]; try rfl), j + 1, g2 + 1, by omega, ?_⟩
   have hnl := congrArg List.length hnew
   simp [endsOf] at hnl
   simp only [hnew]
   simp [KnHp, netD, iRow, endsOf, hnl]
  ·have hlt' : ¬ (j : Int) < n.ports.length := by omega
   obtain rfl : j = n.ports.length := by omega
   simp only [List.take_length]
   simp (maxSteps:=500000) only [↓vp, vv, ↓reduceIte, simprocAttr, c115_4, c115_8, KnHp, netD, hlt', Int.lt_irrefl]
   rw [vc_loop]
   refine ⟨fun m s => ∃ (j g : Nat), j + m = n.sts.length ∧ s = ⟨fr [(1, .ptr (0, 1) 0 0 0), (3, .own (0, 1000) g 0 ((n.segs.flatMap endsOf ++ n.ports.map (·.node)) ++ (n.sts.take j).map (·.node)).length), (39, .sl (n.sts.map Stn.row)), (40, di n.sts.length), (41, di j)], KnHp n g ((n.segs.flatMap endsOf ++ n.ports.map (·.node)) ++ (n.sts.take j).map (·.node))⟩, ⟨n.sts.length, _, (weak_eq [] [(0, 1), (0, 1000)] [(1, .ptr (0, 1) 0 0 0), (3, .own (0, 1000) g2 0 (n.segs.flatMap endsOf ++ n.ports.map (·.node)).length), (39, .sl (n.sts.map Stn.row)), (40, di n.sts.length), (41, di 0)] (by simp only [↓vp, vv, ↓reduceIte, simprocAttr, coverS]) (by simp only [↓vp, vv, ↓reduceIte, simprocAttr, refsF]) (by simp only [↓vp, vv, ↓reduceIte, simprocAttr, netD, iRow, KnHp]) (by simp) (by simp only [↓vp, vv, ↓reduceIte, simprocAttr, netD, iRow, KnHp]; try rfl)), 0, g2, by omega, by simp [KnHp, netD, iRow]⟩, ?_⟩
   rintro m s ⟨j, g3, hj, rfl⟩
   by_cases hlt : j < n.sts.length
   ·have hlt' : (j : Int) < n.sts.length := by omega
    have hn := idx_nn j
    have hg := getD_map Stn.row n.sts j hlt
    have w1 := idx_next (j := j) (by omega)
    have htk := take_mp (fun p : Stn => p.node) hlt
    generalize n.sts[j] = x at hg htk
    have hlen : ((n.segs.flatMap endsOf ++ n.ports.map (·.node)) ++ (n.sts.take j).map (·.node)).length ≤ 10000000 := by
     simp only [List.length_append, List.length_map, List.length_flatMap, endsOf, List.length_cons, List.length_nil, List.map_const', List.sum_replicate_nat, List.length_take]
     omega
    have hnew : (n.segs.flatMap endsOf ++ n.ports.map (·.node)) ++ (n.sts.take (j + 1)).map (·.node) = (n.segs.flatMap endsOf ++ n.ports.map (·.node)) ++ (n.sts.take j).map (·.node) ++ [x.node] := by rw [htk]; simp
    generalize (n.segs.flatMap endsOf ++ n.ports.map (·.node)) ++ (n.sts.take j).map (·.node) = K at hlen hnew
    simp (maxSteps:=500000) only [↓vp, vv, ↓reduceIte, simprocAttr, c115_6, c115_5, KnHp, netD, iRow, hlt', hn, Int.toNat_natCast, hg, Stn.row, w1]
    refine ⟨⟨by omega, by omega⟩, m - 1, _, by omega, weak_eq [] [(0, 1), (0, 1000)] [(1, .ptr (0, 1) 0 0 0), (3, .own (0, 1000) (g3 + 1) 0 (K.length + 1)), (39, .sl (n.sts.map Stn.row)), (40, di n.sts.length), (41, di (j + 1 : Nat))] (by simp only [↓vp, vv, ↓reduceIte, simprocAttr, coverS, Stn.row, w1]) (by simp only [↓vp, vv, ↓reduceIte, simprocAttr, refsF]) (by simp only [↓vp, vv, ↓reduceIte, simprocAttr, netD, iRow]) (by simp) (by simp only [↓vp, vv, ↓reduceIte, simprocAttr, netD, iRow]; try rfl), j + 1, g3 + 1, by omega, ?_⟩
    have hnl := congrArg List.length hnew
    simp [endsOf] at hnl
    simp only [hnew]
    simp [KnHp, netD, iRow, endsOf, Nat.add_assoc, hnl]
   ·have hlt' : ¬ (j : Int) < n.sts.length := by omega
    obtain rfl : j = n.sts.length := by omega
    simp only [List.take_length]
    have hq : QOk Tryd.prog false 1 (qRow intOf1 (unk n)) 141 [netD n] ((allIx n).map iRow) := by
     refine ⟨f141_ok, ?_, fun r hr => ?_⟩
     ·simp only [allIx, List.length_append, List.length_map, List.length_flatMap, endsOf, List.length_cons, List.length_nil, List.map_const', List.sum_replicate_nat]
      omega
     ·obtain ⟨x, _, rfl⟩ := List.mem_map.1 hr
      exact ⟨rfl, rfl, fun _ => ⟨_, rfl⟩, fun nn => kn1_c n x nn⟩
    have ho : outC (fun r => qRow intOf1 (unk n) (elV false r)) ((allIx n).map iRow) = db ((allIx n).any (unk n)) := by
     unfold outC
     rw [List.any_map]
     rfl
    change vc _ _ _ _ _ ⟨fr [(1, .ptr (0, 1) 0 0 0), (3, .own (0, 1000) g3 0 (allIx n).length), (39, .sl (n.sts.map Stn.row)), (40, di n.sts.length), (41, di n.sts.length)], KnHp n g3 (allIx n)⟩
    simp (maxSteps:=500000) only [↓vp, vv, ↓reduceIte, simprocAttr, c115_6, KnHp, netD, hlt', Int.lt_irrefl]
    refine vc_wk ((weak_ip 1 (0, 1) 0 6 (netD n) (by simp only [↓vp, vv, ↓reduceIte, simprocAttr, ]) (by simp only [↓vp, vv, ↓reduceIte, simprocAttr, netD]) (by simp only [↓vp, vv, ↓reduceIte, simprocAttr, netD]) (by simp)).trans (weak_eq [(0, 1000)] [] [(1, .ip (netD n)), (3, .sl ((allIx n).map iRow))] (by simp only [↓vp, vv, ↓reduceIte, simprocAttr, coverS, iRow]) (by simp only [↓vp, vv, ↓reduceIte, simprocAttr, refsF]) (by simp only [↓vp, vv, ↓reduceIte, simprocAttr, ]) (by simp) (by simp only [↓vp, vv, ↓reduceIte, simprocAttr, ]; try rfl))) ?_
    simp (maxSteps:=500000) only [↓vp, vv, ↓reduceIte, simprocAttr, c115_7, r115, TK, selQ, ipsOf, hq, ho, knB, Pu]
def inB (a b c : Int) : Bool := if decide (b ≤ a) = true then decide (a ≤ c) else false
set_option maxHeartbeats 1000000 in
theorem in_c (a b c : Int) (nn : Nm) : CallsA Tryd.prog 146 [di a, di b, di c] Hp.none nn (Pu (db (inB a b c)) Hp.none) := by
 obtain ⟨code, h1, h2⟩ := c146_ok
 refine callsA_of (T0_ok _) mixed (N := fun t => (0, t)) Tryd.func146 h1 h2 r146_ok [] false js_nil js_nil' (by simp [Tryd.f146]) ?_
 cases hb : decide (b ≤ a) <;> simp (maxSteps:=500000) only [↓vp, vv, ↓reduceIte, simprocAttr, c146, r146, hb, Pu, inB]
set_option maxHeartbeats 1000000 in
theorem rin_c (a b c : Int) (nn : Nm) : CallsA Tryd.prog 117 [di a, di b, di c] Hp.none nn (Pu (db (inB a b c)) Hp.none) := by
 obtain ⟨code, h1, h2⟩ := c117_ok
 refine callsA_of (T0_ok _) mixed (N := fun t => (0, t)) Tryd.func117 h1 h2 r117_ok [] false js_nil js_nil' (by simp [Tryd.f117]) ?_
 cases hb : decide (b ≤ a) <;> simp (maxSteps:=500000) only [↓vp, vv, ↓reduceIte, simprocAttr, c117, r117, hb, Pu, inB]
def selIn : List D → Option (Prop × D)
 | [.v (.int .i64 a), .v (.int .i64 b), .v (.int .i64 c)] => some (True, db (inB a b c))
 | _ => Option.none
def TI : Tbl := tc 146 (rowPu selIn) (tc 117 (rowPu selIn) T0)
theorem TI_ok : TblOk Tryd.prog TI := by
 refine tc_pu f146_ok (fun args pre d h hp nn => ?_) (tc_pu f117_ok (fun args pre d h hp nn => ?_) (T0_ok _))
 ·unfold selIn at h
  split at h <;> cases h
  exact in_c _ _ _ nn
 ·unfold selIn at h
  split at h <;> cases h
  exact rin_c _ _ _ nn
def ptBad (l : List Pt) (i : Nat) : Bool := match l[i]? with
 | some p => if inB p.height (-500) 5000 = true then (if inB p.limit 0 100000000 = true then (if 0 < i then decide (p.at' ≤ (l.getD (i - 1) ⟨0, 0, 0⟩).at') else false) else true) else true
 | Option.none => false
def pipeB (s : Seg) : Bool := if (s.fr == s.to) = true then false else if inB s.cap 1 1000000 = true then (if inB s.resist 0 1000 = true then (if inB s.wave 0 100000 = true then
  (if (List.range s.points.length).any (ptBad s.points) = true then false else if ((s.points.getD 0 ⟨0, 0, 0⟩).at' == 0) = true then (s.points.getD (s.points.length - 1) ⟨0, 0, 0⟩).at' == s.cap else false) else false) else false) else false
theorem pt_at {l : List Pt} {i : Nat} (h : i < l.length) : ptBad l i = if inB l[i].height (-500) 5000 = true then (if inB l[i].limit 0 100000000 = true then (if 0 < i then decide (l[i].at' ≤ (l.getD (i - 1) ⟨0, 0, 0⟩).at') else false) else true) else true := by
 unfold ptBad
 rw [List.getElem?_eq_getElem h]
theorem getD_lt {α : Type} {l : List α} {k : Nat} (h : k < l.length) (d : α) : l.getD k d = l[k] := by rw [List.getD_eq_getElem?_getD, List.getElem?_eq_getElem h]; rfl
set_option maxHeartbeats 8000000 in
theorem pipe_c (s : Seg) (hz : 1 ≤ s.points.length ∧ s.points.length ≤ 1000000) (nn : Nm) : CallsA Tryd.prog 143 [.agg s.row] Hp.none nn (Pu (db (pipeB s)) Hp.none) := by
 obtain ⟨code, h1, h2⟩ := c143_ok
 refine callsA_of TI_ok mixed (N := fun t => (0, t)) Tryd.func143 h1 h2 r143_ok [] false js_nil js_nil' (by simp [Tryd.f143]) ?_
 cases a1 : (s.fr == s.to) with
 | true => simp (maxSteps:=500000) only [↓vp, vv, ↓reduceIte, simprocAttr, c143, r143, c143_1, c143_2, c143_3, c143_4, c143_5, TI, selIn, Seg.row, a1, pipeB, Pu]
 | false =>
 cases a2 : inB s.cap 1 1000000 with
 | false => simp (maxSteps:=500000) only [↓vp, vv, ↓reduceIte, simprocAttr, c143, r143, c143_1, c143_2, c143_3, c143_4, c143_5, TI, selIn, Seg.row, a1, a2, pipeB, Pu]
 | true =>
 cases a3 : inB s.resist 0 1000 with
 | false => simp (maxSteps:=500000) only [↓vp, vv, ↓reduceIte, simprocAttr, c143, r143, c143_1, c143_2, c143_3, c143_4, c143_5, TI, selIn, Seg.row, a1, a2, a3, pipeB, Pu]
 | true =>
 cases a4 : inB s.wave 0 100000 with
 | false => simp (maxSteps:=500000) only [↓vp, vv, ↓reduceIte, simprocAttr, c143, r143, c143_1, c143_2, c143_3, c143_4, c143_5, TI, selIn, Seg.row, a1, a2, a3, a4, pipeB, Pu]
 | true =>
 generalize hb : (List.range s.points.length).any (ptBad s.points) = b
 have hp : pipeB s = if b = true then false else if ((s.points.getD 0 ⟨0, 0, 0⟩).at' == 0) = true then (s.points.getD (s.points.length - 1) ⟨0, 0, 0⟩).at' == s.cap else false := by unfold pipeB; rw [a1, a2, a3, a4, hb]; rfl
 simp (maxSteps:=500000) only [↓vp, vv, ↓reduceIte, simprocAttr, c143, c143_5, TI, selIn, Seg.row, a1, a2, a3, a4]
 refine rng_loop s.points.length (fun j => ⟨fr [(1, .ptr (0, 1) 0 0 0), (29, .sl (s.points.map Pt.row)), (30, di s.points.length), (31, di j)], Hp.none.put (0, 1) ⟨0, 7, [s.row]⟩⟩) (fun j => ((List.range s.points.length).drop j).any (ptBad s.points) = b) (weak1 (by simp only [↓vp, vv, ↓reduceIte, simprocAttr, coverS]) (by simp only [↓vp, vv, ↓reduceIte, simprocAttr, refsF]) (by simp only [↓vp, vv, ↓reduceIte, simprocAttr, Seg.row]) (by simp only [↓vp, vv, ↓reduceIte, simprocAttr, ])) hb (fun j hj he => ?_) (fun he => ?_)
 ·have hj' : (j : Int) < s.points.length := by omega
  have hn := idx_nn j
  have w1 := idx_next (j := j) (by omega)
  have hjl : j < (List.range s.points.length).length := by simpa using hj
  obtain ⟨hf, ht⟩ := drop_any hjl he
  rw [range_at, pt_at hj] at hf ht
  have hg := getD_map Pt.row s.points j hj
  have hpr : 0 < j → (s.points.map Pt.row).getD (j - 1) [] = (s.points.getD (j - 1) ⟨0, 0, 0⟩).row := fun h => by
   have h' : j - 1 < s.points.length := by omega
   rw [getD_map Pt.row s.points (j - 1) h', getD_lt h']
  generalize s.points[j] = x at hf ht hg
  generalize s.points.getD (j - 1) ⟨0, 0, 0⟩ = y at hf ht hpr
  have bad : b = true → pipeB s = false := fun h => by rw [hp, h]; rfl
  cases b1 : inB x.height (-500) 5000 with
  | false =>
   have e1 := bad (hf (by rw [b1]; rfl))
   simp (maxSteps:=500000) only [↓vp, vv, ↓reduceIte, simprocAttr, c143, r143, c143_1, c143_2, c143_3, c143_4, c143_5, TI, selIn, hj', hn, Int.toNat_natCast, hg, Pt.row, b1, e1, Pu]
  | true =>
  cases b2 : inB x.limit 0 100000000 with
  | false =>
   have e1 := bad (hf (by rw [b1, b2]; rfl))
   simp (maxSteps:=500000) only [↓vp, vv, ↓reduceIte, simprocAttr, c143, r143, c143_1, c143_2, c143_3, c143_4, c143_5, TI, selIn, hj', hn, Int.toNat_natCast, hg, Pt.row, b1, b2, e1, Pu]
  | true =>
  by_cases b3 : 0 < j
  ·have b3' : (0 : Int) < j := by omega
   have w2 : IntKind.i64.wrap ((j : Int) - 1) = ((j - 1 : Nat) : Int) := by rw [wrap_i (by omega)]; omega
   have hn2 := idx_nn (j - 1)
   have hj2 : ((j - 1 : Nat) : Int) < s.points.length := by omega
   have hpr' := hpr b3
   cases b4 : decide (x.at' ≤ y.at') with
   | true =>
    have e1 := bad (hf (by rw [b1, b2, b4]; simp [b3]))
    simp (maxSteps:=500000) only [↓vp, vv, ↓reduceIte, simprocAttr, c143, r143, c143_1, c143_2, c143_3, c143_4, c143_5, TI, selIn, hj', hn, Int.toNat_natCast, hg, Seg.row, Pt.row, b1, b2, b3', w2, hn2, hj2, hpr', b4, e1, Pu]
   | false =>
    simp (maxSteps:=500000) only [↓vp, vv, ↓reduceIte, simprocAttr, c143, r143, c143_1, c143_2, c143_3, c143_4, c143_5, TI, selIn, hj', hn, Int.toNat_natCast, hg, Seg.row, Pt.row, b1, b2, b3', w2, hn2, hj2, hpr', b4, w1]
    exact rng_next hj (weak1 (by simp only [↓vp, vv, ↓reduceIte, simprocAttr, coverS, Pt.row, w1]) (by simp only [↓vp, vv, ↓reduceIte, simprocAttr, refsF]) (by simp only [↓vp, vv, ↓reduceIte, simprocAttr, Seg.row]) (by simp only [↓vp, vv, ↓reduceIte, simprocAttr, ])) (ht (by rw [b1, b2, b4]; simp))
  ·have b3' : ¬ (0 : Int) < j := by omega
   simp (maxSteps:=500000) only [↓vp, vv, ↓reduceIte, simprocAttr, c143, r143, c143_1, c143_2, c143_3, c143_4, c143_5, TI, selIn, hj', hn, Int.toNat_natCast, hg, Seg.row, Pt.row, b1, b2, b3', w1, decide_false]
   exact rng_next hj (weak1 (by simp only [↓vp, vv, ↓reduceIte, simprocAttr, coverS, Pt.row, w1]) (by simp only [↓vp, vv, ↓reduceIte, simprocAttr, refsF]) (by simp only [↓vp, vv, ↓reduceIte, simprocAttr, Seg.row]) (by simp only [↓vp, vv, ↓reduceIte, simprocAttr, ])) (ht (by rw [b1, b2]; simp [b3]))
 ·have e1 : b = false := drop_any_end (by simp) he
  rw [e1] at hp
  simp only [Bool.false_eq_true, if_false] at hp
  have h0 : (s.points.map Pt.row).getD 0 [] = (s.points.getD 0 ⟨0, 0, 0⟩).row := by rw [getD_map Pt.row s.points 0 (by omega), getD_lt (by omega)]
  have h9 : (s.points.map Pt.row).getD (s.points.length - 1) [] = (s.points.getD (s.points.length - 1) ⟨0, 0, 0⟩).row := by rw [getD_map Pt.row s.points (s.points.length - 1) (by omega), getD_lt (by omega)]
  generalize s.points.getD 0 ⟨0, 0, 0⟩ = x at hp h0
  generalize s.points.getD (s.points.length - 1) ⟨0, 0, 0⟩ = y at hp h9
  have w2 : IntKind.i64.wrap ((s.points.length : Int) - 1) = ((s.points.length - 1 : Nat) : Int) := by rw [wrap_i (by omega)]; omega
  have hn2 := idx_nn (s.points.length - 1)
  have hj2 : ((s.points.length - 1 : Nat) : Int) < s.points.length := by omega
  have hj0 : (0 : Int) < s.points.length := by omega
  have hlt' : ¬ (s.points.length : Int) < s.points.length := by omega
  cases b1 : (x.at' == 0) with
  | false =>
   rw [b1] at hp
   simp (maxSteps:=500000) only [↓vp, vv, ↓reduceIte, simprocAttr, c143, r143, c143_1, c143_2, c143_3, c143_4, c143_5, TI, selIn, Seg.row, Pt.row, Int.lt_irrefl, hj0, h0, b1, hp, Pu]
  | true =>
   rw [b1, if_pos rfl] at hp
   simp (maxSteps:=500000) only [↓vp, vv, ↓reduceIte, simprocAttr, c143, r143, c143_1, c143_2, c143_3, c143_4, c143_5, TI, selIn, Seg.row, Pt.row, Int.lt_irrefl, Int.toNat_natCast, hj0, h0, h9, w2, hn2, hj2, b1, hp, Pu]
def portBad (p : Port) : Bool := !inB p.press 0 100000000
def stnBad (x : Stn) : Bool := if inB x.head 0 100000000 = true then (if inB x.fall 0 100000 = true then !inB x.suct 0 100000000 else true) else true
def segBad (s : Seg) : Bool := !pipeB s
def PtsPos (n : Net) : Prop := ∀ s ∈ n.segs, 1 ≤ s.points.length
def prB (n : Net) : Bool := if n.segs.any segBad = true then false else if n.ports.any portBad = true then false else if n.sts.any stnBad = true then false else if inB n.vap (-100000) 100000000 = true then inB n.set 0 100 else false
def selSegP (out : Seg → D) : List D → Option (Prop × D)
 | [.agg r] => match segOf1 r with
  | some s => some (1 ≤ s.points.length ∧ s.points.length ≤ 1000000, out s)
  | Option.none => Option.none
 | _ => Option.none
def TI2 : Tbl := tc 143 (rowPu (selSegP fun s => db (pipeB s))) TI
theorem TI2_ok : TblOk Tryd.prog TI2 := by
 refine tc_pu f143_ok (fun args pre d h hp nn => ?_) TI_ok
 unfold selSegP at h
 split at h
 ·split at h
  ·rename_i hm; cases h; rw [segOf1_eq hm]; exact pipe_c _ hp nn
  ·cases h
 ·cases h
set_option maxHeartbeats 2000000 in
theorem pr1_c (s : Seg) (hz : 1 ≤ s.points.length ∧ s.points.length ≤ 1000000) (nn : Nm) : CallsA Tryd.prog 142 [.agg s.row] Hp.none nn (Pu (db (segBad s)) Hp.none) := by
 obtain ⟨code, h1, h2⟩ := c142_ok
 refine callsA_of TI2_ok mixed (N := fun t => (0, t)) Tryd.func142 h1 h2 r142_ok [] false js_nil js_nil' (by simp [Tryd.f142]) ?_
 have hs : segOf1 [ds s.name, di s.fr, di s.to, di s.cap, di s.resist, di s.wave, .sl (s.points.map Pt.row)] = some s := segOf1_row s
 simp (maxSteps:=500000) only [↓vp, vv, ↓reduceIte, simprocAttr, c142, r142, TI2, selSegP, Seg.row, hs, hz, segBad, Pu]
set_option maxHeartbeats 2000000 in
theorem pr2_c (p : Port) (nn : Nm) : CallsA Tryd.prog 145 [.agg p.row] Hp.none nn (Pu (db (portBad p)) Hp.none) := by
 obtain ⟨code, h1, h2⟩ := c145_ok
 refine callsA_of TI_ok mixed (N := fun t => (0, t)) Tryd.func145 h1 h2 r145_ok [] false js_nil js_nil' (by simp [Tryd.f145]) ?_
 simp (maxSteps:=500000) only [↓vp, vv, ↓reduceIte, simprocAttr, c145, r145, TI, selIn, Port.row, portBad, Pu]
set_option maxHeartbeats 2000000 in
theorem pr3_c (x : Stn) (nn : Nm) : CallsA Tryd.prog 148 [.agg x.row] Hp.none nn (Pu (db (stnBad x)) Hp.none) := by
 obtain ⟨code, h1, h2⟩ := c148_ok
 refine callsA_of TI_ok mixed (N := fun t => (0, t)) Tryd.func148 h1 h2 r148_ok [] false js_nil js_nil' (by simp [Tryd.f148]) ?_
 cases a1 : inB x.head 0 100000000 with
 | false => simp (maxSteps:=500000) only [↓vp, vv, ↓reduceIte, simprocAttr, c148, r148, TI, selIn, Stn.row, stnBad, a1, Pu]
 | true =>
  cases a2 : inB x.fall 0 100000 with
  | false => simp (maxSteps:=500000) only [↓vp, vv, ↓reduceIte, simprocAttr, c148, r148, TI, selIn, Stn.row, stnBad, a1, a2, Pu]
  | true => simp (maxSteps:=500000) only [↓vp, vv, ↓reduceIte, simprocAttr, c148, r148, TI, selIn, Stn.row, stnBad, a1, a2, Pu]
def TPr (P : Program) : Tbl := tc 134 (rowPu (selQ P true 7 (fun g l => qRow segOf1 segBad) outC)) (tc 144 (rowPu (selQ P true 3 (fun g l => qRow portOf1 portBad) outC)) (tc 147 (rowPu (selQ P true 5 (fun g l => qRow stnOf1 stnBad) outC)) TI))
theorem tc_cf {P : Program} {ag : Bool} {sz : Nat} {f : FuncId} {q : FuncId → List (List D) → D → Bool} {T : Tbl} (hf : fnOk P f = true) (h : ∀ (q : D → Bool) (g : FuncId) (l rows : List (List D)), QOk P ag sz q g l rows → ∀ nn, CallsA P f [.sl rows, .clo g [] (ips l)] Hp.none nn (Pu (outC (fun r => q (elV ag r)) rows) Hp.none)) (hT : TblOk P T) : TblOk P (tc f (rowPu (selQ P ag sz q outC)) T) :=
 tc_pu hf (fun args pre d hs hp nn => by
  unfold selQ at hs
  split at hs
  ·split at hs
   ·rename_i hi
    cases hs
    rw [ipsOf_eq hi]
    exact h _ _ _ _ hp nn
   ·cases hs
  ·cases hs) hT
theorem TPr_ok : TblOk Tryd.prog (TPr Tryd.prog) := tc_cf f134_ok (fun q g l rows h nn => hasF_G q g l rows h nn) (tc_cf f144_ok (fun q g l rows h nn => hasF_P q g l rows h nn) (tc_cf f147_ok (fun q g l rows h nn => hasF_N q g l rows h nn) TI_ok))
theorem outC_rows {α : Type} (f : List D → Option α) (g : α → List D) (q : α → Bool) (h : ∀ x, f (g x) = some x) (l : List α) : outC (fun r => qRow f q (elV true r)) (l.map g) = db (l.any q) := by
 have e : ((fun r => qRow f q (elV true r)) ∘ g) = q := funext fun x => qRow_agg (h x)
 unfold outC
 rw [List.any_map, e]
set_option maxHeartbeats 4000000 in
theorem proper_c (n : Net) (hz : NetSz n) (hp : PtsPos n) (nn : Nm) : CallsA Tryd.prog 116 [n.enc] Hp.none nn (Pu (db (prB n)) Hp.none) := by
 obtain ⟨code, h1, h2⟩ := c116_ok
 refine callsA_of TPr_ok mixed (N := fun t => (0, t)) Tryd.func116 h1 h2 r116_ok [] false js_nil js_nil' (by simp [Tryd.f116]) ?_
 have q1 : QOk Tryd.prog true 7 (qRow segOf1 segBad) 142 [] (n.segs.map Seg.row) := by
  refine ⟨f142_ok, by simp; have := hz.segs; omega, fun r hr => ?_⟩
  obtain ⟨x, hx, rfl⟩ := List.mem_map.1 hr
  refine ⟨rfl, x.done, fun h => Bool.noConfusion h, fun nn => ?_⟩
  have := pr1_c x ⟨hp x hx, hz.pts x hx⟩ nn
  rw [← qRow_agg (q := segBad) (segOf1_row x)] at this
  exact this
 have q2 : QOk Tryd.prog true 3 (qRow portOf1 portBad) 145 [] (n.ports.map Port.row) := by
  refine ⟨f145_ok, by simp; have := hz.ports; omega, fun r hr => ?_⟩
  obtain ⟨x, _, rfl⟩ := List.mem_map.1 hr
  exact ⟨rfl, x.done, fun h => Bool.noConfusion h, fun nn => pr2_c x nn⟩
 have q3 : QOk Tryd.prog true 5 (qRow stnOf1 stnBad) 148 [] (n.sts.map Stn.row) := by
  refine ⟨f148_ok, by simp; have := hz.sts; omega, fun r hr => ?_⟩
  obtain ⟨x, _, rfl⟩ := List.mem_map.1 hr
  exact ⟨rfl, x.done, fun h => Bool.noConfusion h, fun nn => pr3_c x nn⟩
 have o1 := outC_rows segOf1 Seg.row segBad segOf1_row n.segs
 have o2 := outC_rows portOf1 Port.row portBad portOf1_row n.ports
 have o3 := outC_rows stnOf1 Stn.row stnBad stnOf1_row n.sts
 cases a1 : n.segs.any segBad with
 | true => rw [a1] at o1; simp (maxSteps:=500000) only [↓vp, vv, ↓reduceIte, simprocAttr, c116, r116, c116_1, c116_2, c116_3, TPr, TI, selQ, ipsOf, Net.enc, q1, o1, a1, prB, Pu]
 | false =>
 rw [a1] at o1
 cases a2 : n.ports.any portBad with
 | true => rw [a2] at o2; simp (maxSteps:=500000) only [↓vp, vv, ↓reduceIte, simprocAttr, c116, r116, c116_1, c116_2, c116_3, TPr, TI, selQ, ipsOf, Net.enc, q1, q2, o1, o2, a1, a2, prB, Pu]
 | false =>
 rw [a2] at o2
 cases a3 : n.sts.any stnBad with
 | true => rw [a3] at o3; simp (maxSteps:=500000) only [↓vp, vv, ↓reduceIte, simprocAttr, c116, r116, c116_1, c116_2, c116_3, TPr, TI, selQ, ipsOf, Net.enc, q1, q2, q3, o1, o2, o3, a1, a2, a3, prB, Pu]
 | false =>
 rw [a3] at o3
 cases a4 : inB n.vap (-100000) 100000000 with
 | false => simp (maxSteps:=500000) only [↓vp, vv, ↓reduceIte, simprocAttr, c116, r116, c116_1, c116_2, c116_3, TPr, TI, selIn, selQ, ipsOf, Net.enc, q1, q2, q3, o1, o2, o3, a1, a2, a3, a4, prB, Pu]
 | true => simp (maxSteps:=500000) only [↓vp, vv, ↓reduceIte, simprocAttr, c116, r116, c116_1, c116_2, c116_3, TPr, TI, selIn, selQ, ipsOf, Net.enc, q1, q2, q3, o1, o2, o3, a1, a2, a3, a4, prB, Pu]
def nmBad (s : ByteArray) : Bool := !nameB s
def selNm : List D → Option (Prop × D)
 | [.v (.string s)] => some (True, db (nameB s))
 | _ => Option.none
def TN1 : Tbl := tc 113 (rowPu selNm) (tc 101 (rowPu selNm) T0)
theorem TN1_ok : TblOk Tryd.prog TN1 := by
 refine tc_pu f113_ok (fun args pre d h hp nn => ?_) (tc_pu f101_ok (fun args pre d h hp nn => ?_) (T0_ok _))
 ·unfold selNm at h
  split at h <;> cases h
  exact lname_c _ nn
 ·unfold selNm at h
  split at h <;> cases h
  exact rname_c _ nn
theorem ck1_c (s : ByteArray) (nn : Nm) : CallsA Tryd.prog 112 [ds s] Hp.none nn (Pu (db (nmBad s)) Hp.none) := by
 obtain ⟨code, h1, h2⟩ := c112_ok
 refine callsA_of TN1_ok mixed (N := fun t => (0, t)) Tryd.func112 h1 h2 r112_ok [] false js_nil js_nil' (by simp [Tryd.f112]) ?_
 simp (maxSteps:=500000) only [↓vp, vv, ↓reduceIte, simprocAttr, c112, r112, TN1, selNm, nmBad, Pu]
def formBad (n : Net) : Bool := (nms4 n).any fun l => l.any nmBad
def checkI (n : Net) : Int := if limB n = true then (if formBad n = true then 3 else if twB n = true then 7 else if knB n = true then (if prB n = true then 0 else 9) else 8) else 4
def selNetP (out : Net → D) : List D → Option (Prop × D)
 | [.agg r] => match netOf1 r with
  | some n => some (NetSz n ∧ PtsPos n, out n)
  | Option.none => Option.none
 | _ => Option.none
def TC (P : Program) : Tbl := tc 109 (rowPu (selNet fun n => db (limB n))) (tc 110 (rowPu (selNet nmsD)) (tc 111 (rowPu (selQ P false 1 (fun g l => qRow nmOf1 nmBad) outC)) (tc 114 (rowPu (selNet fun n => db (twB n))) (tc 115 (rowPu (selNet fun n => db (knB n))) (tc 116 (rowPu (selNetP fun n => db (prB n))) T0)))))
theorem TC_ok : TblOk Tryd.prog (TC Tryd.prog) := by
 refine tc_netf f109_ok limits_c (tc_netf f110_ok (fun n hz nn => pnames_c n hz.segs hz.ports hz.sts nn) (tc_cf f111_ok (fun q g l rows h nn => hasF_S q g l rows h nn) (tc_netf f114_ok twice_c (tc_netf f115_ok known_c (tc_pu f116_ok (fun args pre d hs hp nn => ?_) (T0_ok _))))))
 unfold selNetP at hs
 split at hs
 ·split at hs
  ·rename_i n hn
   cases hs
   rw [netOf1_eq hn]
   exact proper_c _ hp.1 hp.2 nn
  ·cases hs
 ·cases hs
theorem lim_pts {n : Net} (h : limB n = true) : PtsPos n ∧ ∀ s ∈ n.segs, 2 ≤ s.points.length ∧ s.points.length ≤ 8 := by
 have h' : n.segs.any ptsBad = false := by
  unfold limB at h
  repeat (split at h; · cases h)
  simpa using h
 have k : ∀ s ∈ n.segs, 2 ≤ s.points.length ∧ s.points.length ≤ 8 := fun s hs => by
  have : ptsBad s = false := by
   cases hp : ptsBad s with
   | false => rfl
   | true => rw [List.any_eq_true.2 ⟨s, hs, hp⟩] at h'; cases h'
  unfold ptsBad at this
  split at this
  ·cases this
  ·rename_i h1
   simp at h1 this
   omega
 exact ⟨fun s hs => by have := k s hs; omega, k⟩
set_option maxHeartbeats 4000000 in
theorem check_c (n : Net) (hz : NetSz n) (nn : Nm) : CallsA Tryd.prog 77 [n.enc] Hp.none nn (Pu (di (checkI n)) Hp.none) := by
 obtain ⟨code, h1, h2⟩ := c77_ok
 refine callsA_of TC_ok mixed (N := fun t => (0, t)) Tryd.func77 h1 h2 r77_ok [] false js_nil js_nil' (by simp [Tryd.f77]) ?_
 have hn1 := netOf1_x n
 cases a1 : limB n with
 | false => simp (maxSteps:=500000) only [↓vp, vv, ↓reduceIte, simprocAttr, c77, r77, c77_1, c77_2, c77_3, c77_4, c77_5, c77_6, TC, selNet, Net.enc, hn1, hz, a1, checkI, Pu]
 | true =>
 have hp := (lim_pts a1).1
 generalize hb : formBad n = b
 have hc : checkI n = if b = true then 3 else if twB n = true then 7 else if knB n = true then (if prB n = true then 0 else 9) else 8 := by unfold checkI; rw [a1, hb]; rfl
 simp (maxSteps:=500000) only [↓vp, vv, ↓reduceIte, simprocAttr, c77, c77_6, TC, selNet, Net.enc, hn1, hz, a1]
 refine rng_loop 4 (fun j => ⟨fr [(1, .ptr (0, 1) 0 0 0), (9, nmsD n), (10, di j)], netH n⟩) (fun j => ((nms4 n).drop j).any (fun l => l.any nmBad) = b) (weak1 (by simp only [↓vp, vv, ↓reduceIte, simprocAttr, coverS]) (by simp only [↓vp, vv, ↓reduceIte, simprocAttr, refsF, nmsD]) (by simp only [↓vp, vv, ↓reduceIte, simprocAttr, netD]) (by simp only [↓vp, vv, ↓reduceIte, simprocAttr, ])) hb (fun j hj he => ?_) (fun he => ?_)
 ·have hj' : (j : Int) < 4 := by omega
  have hn := idx_nn j
  have w1 := idx_next (j := j) (by omega)
  have hjl : j < (nms4 n).length := by rw [nms4_len]; exact hj
  obtain ⟨hf, ht⟩ := drop_any hjl he
  have hg := getD_any (fun l => D.sl (List.map nmRow l)) (nms4 n) j hjl
  have hl := nms4_small hz _ (List.getElem_mem hjl)
  generalize (nms4 n)[j] = l at hf ht hg hl
  have hcl2 : j * 1 + 1 ≤ (nms4 n).length := by rw [nms4_len]; omega
  have hq : QOk Tryd.prog false 1 (qRow nmOf1 nmBad) 112 [] (l.map nmRow) := by
   refine ⟨f112_ok, by simp; omega, fun r hr => ?_⟩
   obtain ⟨x, _, rfl⟩ := List.mem_map.1 hr
   exact ⟨rfl, rfl, fun _ => ⟨_, rfl⟩, fun nn => ck1_c x nn⟩
  have ho : outC (fun r => qRow nmOf1 nmBad (elV false r)) (l.map nmRow) = db (l.any nmBad) := by
   unfold outC
   rw [List.any_map]
   rfl
  have hcl3 : j + 1 ≤ (nms4 n).length := by omega
  cases hd : l.any nmBad with
  | true =>
   have e1 := hf hd
   rw [e1] at hc
   rw [hd] at ho
   have hc3 : checkI n = 3 := hc
   simp (maxSteps:=500000) only [↓vp, vv, ↓reduceIte, simprocAttr, c77, r77, c77_1, c77_2, c77_3, c77_4, c77_5, c77_6, TC, selQ, ipsOf, netH, netD, nmsD_map, hj', hn, Int.toNat_natCast, hcl2, hcl3, Nat.mul_one, hg, hq, ho, hc3, Pu]
  | false =>
   rw [hd] at ho
   simp (maxSteps:=500000) only [↓vp, vv, ↓reduceIte, simprocAttr, c77, r77, c77_1, c77_2, c77_3, c77_4, c77_5, c77_6, TC, selQ, ipsOf, netH, netD, nmsD_map, hj', hn, Int.toNat_natCast, hcl2, hcl3, Nat.mul_one, hg, hq, ho, w1]
   exact rng_next hj (weak1 (by simp only [↓vp, vv, ↓reduceIte, simprocAttr, coverS, nmsD, nms4, w1]) (by simp only [↓vp, vv, ↓reduceIte, simprocAttr, refsF, nmsD, nms4]) (by simp only [↓vp, vv, ↓reduceIte, simprocAttr, netD]) (by simp only [↓vp, vv, ↓reduceIte, simprocAttr, netD])) (ht hd)
 ·have e1 : b = false := drop_any_end (nms4_len n).symm he
  rw [e1] at hc
  simp only [Bool.false_eq_true, if_false] at hc
  cases a2 : twB n with
  | true =>
   rw [a2] at hc
   have hc3 : checkI n = 7 := hc
   simp (maxSteps:=500000) only [↓vp, vv, ↓reduceIte, simprocAttr, c77, r77, c77_1, c77_2, c77_3, c77_4, c77_5, c77_6, TC, selNet, netH, netD, hn1, hz, Int.lt_irrefl, a2, hc3, Pu]
  | false =>
  cases a3 : knB n with
  | false =>
   rw [a2, a3] at hc
   have hc3 : checkI n = 8 := hc
   simp (maxSteps:=500000) only [↓vp, vv, ↓reduceIte, simprocAttr, c77, r77, c77_1, c77_2, c77_3, c77_4, c77_5, c77_6, TC, selNet, netH, netD, hn1, hz, Int.lt_irrefl, a2, a3, hc3, Pu]
  | true =>
  cases a4 : prB n with
  | false =>
   rw [a2, a3, a4] at hc
   have hc3 : checkI n = 9 := hc
   simp (maxSteps:=500000) only [↓vp, vv, ↓reduceIte, simprocAttr, c77, r77, c77_1, c77_2, c77_3, c77_4, c77_5, c77_6, TC, selNet, selNetP, netH, netD, hn1, hz, hp, Int.lt_irrefl, a2, a3, a4, hc3, Pu]
  | true =>
   rw [a2, a3, a4] at hc
   have hc3 : checkI n = 0 := hc
   simp (maxSteps:=500000) only [↓vp, vv, ↓reduceIte, simprocAttr, c77, r77, c77_1, c77_2, c77_3, c77_4, c77_5, c77_6, TC, selNet, selNetP, netH, netD, hn1, hz, hp, Int.lt_irrefl, a2, a3, a4, hc3, Pu]
def selNetW (ok : Net → Prop) (out : Net → D) : List D → Option (Prop × D)
 | [.agg r] => match netOf1 r with
  | some n => some (ok n, out n)
  | Option.none => Option.none
 | _ => Option.none
theorem tc_netw {f : FuncId} {ok : Net → Prop} {out : Net → D} {T : Tbl} (hf : fnOk Tryd.prog f = true) (h : ∀ n, ok n → ∀ nn, CallsA Tryd.prog f [n.enc] Hp.none nn (Pu (out n) Hp.none)) (hT : TblOk Tryd.prog T) : TblOk Tryd.prog (tc f (rowPu (selNetW ok out)) T) :=
 tc_pu hf (fun args pre d hs hp nn => by
  unfold selNetW at hs
  split at hs
  ·split at hs
   ·rename_i n hn
    cases hs
    rw [netOf1_eq hn]
    exact h _ hp nn
   ·cases hs
  ·cases hs) hT
theorem sz_of_lim {n : Net} (h : limB n = true) : NetSz n := by
 have h2 := (lim_pts h).2
 unfold limB at h
 repeat (split at h; · cases h)
 exact ⟨by omega, by omega, by omega, by omega, fun s hs => by have := h2 s hs; omega⟩
theorem ctdiv_pos (a b : Int) (hb : 1 ≤ b) (h : 0 ≤ a.tmod b) : a.tdiv b = a / b ∧ a.tmod b = a % b := by
 have e := Int.tmod_add_mul_tdiv a b
 have l := Int.tmod_lt_of_pos a (show 0 < b by omega)
 have := (Int.ediv_emod_unique (a := a) (b := b) (r := a.tmod b) (q := a.tdiv b) (by omega)).2 ⟨e, h, l⟩
 exact ⟨this.1.symm, this.2.symm⟩
theorem ctdiv_neg (a b : Int) (hb : 1 ≤ b) (h : a.tmod b < 0) : a.tdiv b - 1 = a / b ∧ a.tmod b + b = a % b := by
 have e := Int.tmod_add_mul_tdiv a b
 have l := Int.lt_tmod_of_pos a (show 0 < b by omega)
 have := (Int.ediv_emod_unique (a := a) (b := b) (r := a.tmod b + b) (q := a.tdiv b - 1) (by omega)).2 ⟨by rw [Int.mul_sub]; omega, by omega, by omega⟩
 exact ⟨this.1.symm, this.2.symm⟩
theorem ctdiv_bd (a b : Int) (ha : -2305843009213693952 ≤ a) (ha' : a ≤ 2305843009213693952) :
  -2305843009213693952 ≤ a.tdiv b ∧ a.tdiv b ≤ 2305843009213693952 := by
 have h : (a.tdiv b).natAbs = a.natAbs / b.natAbs := Int.natAbs_tdiv a b
 have h2 : a.natAbs / b.natAbs ≤ a.natAbs := Nat.div_le_self _ _
 generalize a.natAbs / b.natAbs = q at h h2
 generalize a.tdiv b = x at *
 omega
def hf (a b : Int) : Int := if b ≤ 2 * (a % b) then a / b + 1 else a / b
theorem mul_rng {e d E D1 D2 : Int} (e0 : 0 ≤ e) (e1 : e ≤ E) (d1 : D1 ≤ d) (d2 : d ≤ D2) (h1 : D1 ≤ 0) (h2 : 0 ≤ D2) : E * D1 ≤ e * d ∧ e * d ≤ E * D2 :=
 ⟨Int.le_trans (Int.mul_le_mul_of_nonpos_right e1 h1) (Int.mul_le_mul_of_nonneg_left d1 e0), Int.le_trans (Int.mul_le_mul_of_nonneg_left d2 e0) (Int.mul_le_mul_of_nonneg_right e1 h2)⟩
theorem hf_rng {a b : Int} (hb : 0 < b) {L U : Int} (h1 : b * L ≤ a) (h2 : a ≤ b * U) : L ≤ hf a b ∧ hf a b ≤ U := by
 have e := Int.mul_ediv_add_emod a b
 have m0 := Int.emod_nonneg a (show b ≠ 0 by omega)
 have m1 := Int.emod_lt_of_pos a hb
 have l1 : L ≤ a / b := (Int.le_ediv_iff_mul_le hb).2 (by rw [Int.mul_comm]; exact h1)
 have l2 : a / b ≤ U := Int.ediv_le_of_le_mul hb (by rw [Int.mul_comm]; exact h2)
 unfold hf
 split
 ·refine ⟨by omega, ?_⟩
  rcases Int.lt_or_eq_of_le l2 with h | h
  ·omega
  ·rw [h] at e; omega
 ·exact ⟨l1, l2⟩
def fHeat (ex t : Int) : Int := 1000000 - hf (ex * (t - 150)) 10
def fPress (co p : Int) : Int := 1000000 + hf (co * p) 1000
def fac (ex co t p : Int) : Int := hf (fHeat ex t * fPress co p) 1000000
def cdOk (t p : Int) : Prop := (-400 ≤ t ∧ t ≤ 1000) ∧ (0 ≤ p ∧ p ≤ 20000)
instance (t p : Int) : Decidable (cdOk t p) := by unfold cdOk; infer_instance
theorem heat_bd {ex t : Int} (h : 0 ≤ ex ∧ ex ≤ 2000) (ht : -400 ≤ t ∧ t ≤ 1000) : (-1100000 ≤ ex * (t - 150) ∧ ex * (t - 150) ≤ 1700000) ∧ (-110000 ≤ hf (ex * (t - 150)) 10 ∧ hf (ex * (t - 150)) 10 ≤ 170000) ∧ (830000 ≤ fHeat ex t ∧ fHeat ex t ≤ 1110000) := by
 have h1 := mul_rng (E := 2000) (D1 := -550) (D2 := 850) h.1 h.2 (show -550 ≤ t - 150 by omega) (by omega) (by omega) (by omega)
 have h2 := hf_rng (a := ex * (t - 150)) (b := 10) (by omega) (L := -110000) (U := 170000) (by omega) (by omega)
 refine ⟨by omega, h2, ?_⟩
 unfold fHeat
 omega
theorem press_bd {co p : Int} (h : 0 ≤ co ∧ co ≤ 5000) (hp : 0 ≤ p ∧ p ≤ 20000) : (0 ≤ co * p ∧ co * p ≤ 100000000) ∧ (0 ≤ hf (co * p) 1000 ∧ hf (co * p) 1000 ≤ 100000) ∧ (1000000 ≤ fPress co p ∧ fPress co p ≤ 1100000) := by
 have h1 := mul_rng (E := 5000) (D1 := 0) (D2 := 20000) h.1 h.2 hp.1 hp.2 (by omega) (by omega)
 have h2 := hf_rng (a := co * p) (b := 1000) (by omega) (L := 0) (U := 100000) (by omega) (by omega)
 refine ⟨by omega, h2, ?_⟩
 unfold fPress
 omega
theorem fac_bd {ex co t p : Int} (he : 0 ≤ ex ∧ ex ≤ 2000) (hc : 0 ≤ co ∧ co ≤ 5000) (h : cdOk t p) : (0 ≤ fHeat ex t * fPress co p ∧ fHeat ex t * fPress co p ≤ 1221000000000) ∧ (830000 ≤ fac ex co t p ∧ fac ex co t p ≤ 1221000) := by
 have a := (heat_bd he h.1).2.2
 have b := (press_bd hc h.2).2.2
 have h1 := mul_rng (E := 1110000) (D1 := 0) (D2 := 1100000) (show 0 ≤ fHeat ex t by omega) a.2 (show 0 ≤ fPress co p by omega) b.2 (by omega) (by omega)
 have h2 : 830000 * 1000000 ≤ fHeat ex t * fPress co p := Int.le_trans (Int.mul_le_mul_of_nonneg_right a.1 (by omega)) (Int.mul_le_mul_of_nonneg_left b.1 (by omega))
 have h3 := hf_rng (a := fHeat ex t * fPress co p) (b := 1000000) (by omega) (L := 830000) (U := 1221000) (by omega) (by omega)
 exact ⟨by omega, h3⟩
def vfOk (g f : Int) : Prop := (0 ≤ g ∧ g ≤ 1099511627776) ∧ (1 ≤ f ∧ f ≤ 2000000)
instance (g f : Int) : Decidable (vfOk g f) := by unfold vfOk; infer_instance
theorem vf_mul {g f : Int} (h : vfOk g f) : 0 ≤ g * f ∧ g * f ≤ 2199023255552000000 := by
 have := mul_rng (E := 1099511627776) (D1 := 0) (D2 := 2000000) h.1.1 h.1.2 (show 0 ≤ f by have := h.2; omega) h.2.2 (by omega) (by omega)
 omega
def stdV (g f : Int) : Int := hf (g * f) 1000000
theorem fac_one (ex co : Int) : fac ex co 150 0 = 1000000 := by
 have h : fHeat ex 150 = 1000000 := by unfold fHeat hf; simp
 have h' : fPress co 0 = 1000000 := by unfold fPress hf; simp
 unfold fac
 rw [h, h']
 decide
theorem std_bd {g f : Int} (h : vfOk g f) : 0 ≤ stdV g f ∧ stdV g f ≤ 2199023255552 := by
 have m := vf_mul h
 exact hf_rng (by omega) (by omega) (by omega)
structure Mtr where
 pl : Int
 bits : Int
 fac : Int
def Mtr.row (m : Mtr) : List D := [di m.pl, di m.bits, di m.fac]
def Mtr.enc (m : Mtr) : D := .agg m.row
structure Cnt where
 last : Int
 pul : Int
theorem Cnt.ext_iff2 (a b : Cnt) : (a.last = b.last ∧ a.pul = b.pul) ↔ a = b := ⟨fun h => by cases a; cases b; simp only at h; obtain ⟨h0, h1⟩ := h; simp only [h0, h1], fun h => by cases h; exact ⟨rfl, rfl⟩⟩
instance : DecidableEq Cnt := fun a b => decidable_of_iff _ (Cnt.ext_iff2 a b)
def Cnt.row (c : Cnt) : List D := [di c.last, di c.pul]
def Cnt.enc (c : Cnt) : D := .agg c.row
structure Cnd where
 te : Int
 pr : Int
theorem Cnd.ext_iff2 (a b : Cnd) : (a.te = b.te ∧ a.pr = b.pr) ↔ a = b := ⟨fun h => by cases a; cases b; simp only at h; obtain ⟨h0, h1⟩ := h; simp only [h0, h1], fun h => by cases h; exact ⟨rfl, rfl⟩⟩
instance : DecidableEq Cnd := fun a b => decidable_of_iff _ (Cnd.ext_iff2 a b)
def Cnd.row (c : Cnd) : List D := [di c.te, di c.pr]
def Cnd.enc (c : Cnd) : D := .agg c.row
structure Prd where
 nm : ByteArray
 de : Int
 ex : Int
 co : Int
 fr : Int
def Prd.row (p : Prd) : List D := [ds p.nm, di p.de, di p.ex, di p.co, di p.fr]
def Prd.enc (p : Prd) : D := .agg p.row
structure Run where
 vol : Int
 rest : Int
theorem Run.ext_iff2 (a b : Run) : (a.vol = b.vol ∧ a.rest = b.rest) ↔ a = b := ⟨fun h => by cases a; cases b; simp only at h; obtain ⟨h0, h1⟩ := h; simp only [h0, h1], fun h => by cases h; exact ⟨rfl, rfl⟩⟩
instance : DecidableEq Run := fun a b => decidable_of_iff _ (Run.ext_iff2 a b)
def Run.row (c : Run) : List D := [di c.vol, di c.rest]
def Run.enc (c : Run) : D := .agg c.row
structure Tic where
 ba : Int
 fl : Int
 fp : Int
 tl : Int
 tp : Int
 te : Int
 pr : Int
 vol : Int
theorem Tic.ext_iff2 (a b : Tic) : (a.ba = b.ba ∧ a.fl = b.fl ∧ a.fp = b.fp ∧ a.tl = b.tl ∧ a.tp = b.tp ∧ a.te = b.te ∧ a.pr = b.pr ∧ a.vol = b.vol) ↔ a = b := ⟨fun h => by cases a; cases b; simp only at h; obtain ⟨h0, h1, h2, h3, h4, h5, h6, h7⟩ := h; simp only [h0, h1, h2, h3, h4, h5, h6, h7], fun h => by cases h; exact ⟨rfl, rfl, rfl, rfl, rfl, rfl, rfl, rfl⟩⟩
instance : DecidableEq Tic := fun a b => decidable_of_iff _ (Tic.ext_iff2 a b)
def Tic.row (t : Tic) : List D := [di t.ba, di t.fl, di t.fp, di t.tl, di t.tp, di t.te, di t.pr, di t.vol]
def Tic.enc (t : Tic) : D := .agg t.row
def Tic.zero : Tic := ⟨0, 0, 0, 0, 0, 0, 0, 0⟩
structure MtrOk (m : Mtr) : Prop where
 pl : 1 ≤ m.pl ∧ m.pl ≤ 1048576
 bits : m.bits = 16 ∨ m.bits = 32
 fac : 50000 ≤ m.fac ∧ m.fac ≤ 200000
instance (m : Mtr) : Decidable (MtrOk m) := decidable_of_iff ((1 ≤ m.pl ∧ m.pl ≤ 1048576) ∧ (m.bits = 16 ∨ m.bits = 32) ∧ (50000 ≤ m.fac ∧ m.fac ≤ 200000)) ⟨fun h => ⟨h.1, h.2.1, h.2.2⟩, fun h => ⟨h.pl, h.bits, h.fac⟩⟩
def spanI (m : Mtr) : Int := if m.bits = 16 then 65536 else 4294967296
structure CntOk (m : Mtr) (c : Cnt) : Prop where
 last : 0 ≤ c.last ∧ c.last < spanI m
 pul : 0 ≤ c.pul ∧ c.pul ≤ 1099511627776
instance (m : Mtr) (c : Cnt) : Decidable (CntOk m c) := decidable_of_iff ((0 ≤ c.last ∧ c.last < spanI m) ∧ (0 ≤ c.pul ∧ c.pul ≤ 1099511627776)) ⟨fun h => ⟨h.1, h.2⟩, fun h => ⟨h.last, h.pul⟩⟩
structure PrdOk (p : Prd) : Prop where
 nm : nameB p.nm = true
 de : 400 ≤ p.de ∧ p.de ≤ 1200
 ex : 0 ≤ p.ex ∧ p.ex ≤ 2000
 co : 0 ≤ p.co ∧ p.co ≤ 5000
 fr : 1 ≤ p.fr ∧ p.fr ≤ 2000
instance (p : Prd) : Decidable (PrdOk p) := decidable_of_iff (nameB p.nm = true ∧ (400 ≤ p.de ∧ p.de ≤ 1200) ∧ (0 ≤ p.ex ∧ p.ex ≤ 2000) ∧ (0 ≤ p.co ∧ p.co ≤ 5000) ∧ (1 ≤ p.fr ∧ p.fr ≤ 2000)) ⟨fun h => ⟨h.1, h.2.1, h.2.2.1, h.2.2.2.1, h.2.2.2.2⟩, fun h => ⟨h.nm, h.de, h.ex, h.co, h.fr⟩⟩
def pV (p : Prd) : Bool := decide (PrdOk p)
theorem pV_f {p : Prd} (h : PrdOk p → False) : pV p = false := decide_eq_false h
theorem pV_t {p : Prd} (h : PrdOk p) : pV p = true := decide_eq_true h
theorem pV_o {p : Prd} (h : pV p = true) : PrdOk p := of_decide_eq_true h
def cdV (c : Cnd) : Bool := decide (cdOk c.te c.pr)
theorem cdV_f {c : Cnd} (h : cdOk c.te c.pr → False) : cdV c = false := decide_eq_false h
theorem cdV_t {c : Cnd} (h : cdOk c.te c.pr) : cdV c = true := decide_eq_true h
def facI (p : Prd) (c : Cnd) : Int × Int := if pV p then (if cdV c then (fac p.ex p.co c.te c.pr, 0) else (0, 1)) else (0, 9)
def vfV (g f : Int) : Bool := decide (vfOk g f)
theorem vfV_f {g f : Int} (h : vfOk g f → False) : vfV g f = false := decide_eq_false h
theorem vfV_t {g f : Int} (h : vfOk g f) : vfV g f = true := decide_eq_true h
theorem vfV_o {g f : Int} (h : vfV g f = true) : vfOk g f := of_decide_eq_true h
def stdI (g f : Int) : Int × Int := if vfV g f then (stdV g f, 0) else (0, 1)
structure RunOk (r : Run) : Prop where
 vol : 0 ≤ r.vol ∧ r.vol ≤ 1099511627776
 rest : 0 ≤ r.rest ∧ r.rest ≤ 999999
instance (r : Run) : Decidable (RunOk r) := decidable_of_iff ((0 ≤ r.vol ∧ r.vol ≤ 1099511627776) ∧ (0 ≤ r.rest ∧ r.rest ≤ 999999)) ⟨fun h => ⟨h.1, h.2⟩, fun h => ⟨h.vol, h.rest⟩⟩
def Run.zero : Run := ⟨0, 0⟩
def Tic.fr (t : Tic) : Cnt := ⟨t.fl, t.fp⟩
def Tic.to (t : Tic) : Cnt := ⟨t.tl, t.tp⟩
end Go.Proofs.YtehmmnnmkapfeaaDoor
