/- RouteAnswers: Gen5 Nk1 Nk2 Nk3 Nk4. -/
import Derived.Test.YtadjhfjiimgddaaYr7
import Derived.Test.YtadjhfjiimgddaaYr6
set_option linter.unusedSimpArgs false
set_option linter.unusedVariables false
set_option maxRecDepth 100000

/- Networks out of a source: nodes and segments. -/
namespace Go.Proofs.Ytadjhfjiimgddaa
open Go
def NetI3 (i : Nm) (L : List (List D)) (g1 : Nat) (nodes : List ByteArray) (vap set : Int) : Nat → St → Prop := fun k s => ∃ at' g2 segs, SrcOk L at' ∧ AllI (SegAt (nodes.length - 1)) segs ∧ nodes.length - 1 ≤ segs.length ∧ segs.length + k ≤ nodes.length + 2 ∧ s = ⟨fr (NetFr i [(5, di (nodes.length - 1)), (7, di k)]), NetHp i L at' g1 nodes g2 segs 0 [] 0 [] vap set⟩
set_option maxHeartbeats 8000000 in
theorem Net_3 (i : Nm) (L : List (List D)) (at' : Int) (ho : SrcOk L at') (g1 : Nat) (nodes : List ByteArray) (hn : AllI NodeOk nodes) (hn2 : 2 ≤ nodes.length ∧ nodes.length ≤ 6) (vap set : Int) (hv : -100000 ≤ vap ∧ vap ≤ 50000) (hset : 0 ≤ set ∧ set ≤ 100) (g2 : Nat) (segs : List Seg) (hs : AllI (SegAt (nodes.length - 1)) segs) (hs2 : segs.length = nodes.length - 1) :
  vc T3 (fun t => (i.1 + 1, t)) [i] c32_13 (finQ r32 [i] false (SrcR i L NetOk Net.enc)) ⟨fr (NetFr i [(5, di (nodes.length - 1))]), NetHp i L at' g1 nodes g2 segs 0 [] 0 [] vap set⟩ := by
 simp (maxSteps:=500000) only [↓vp, vv, ↓reduceIte, simprocAttr, c32_13, T3, T2, T1, selI, selPick, selRange, selName, selSeg, ho, NetHp, NetFr]
 intro a1 c hc
 unfold NPost at hc
 rw [vc_loop]
 refine ⟨NetI3 i L g1 nodes vap set, ⟨c.toNat, _, (weak_eqA [] [i, (i.1 + 1, 2), (i.1 + 1, 3), (i.1 + 1, 1001), (i.1 + 1, 1002), (i.1 + 1, 1003), (i.1 + 1, 1004)] (NetFr i [(5, di (nodes.length - 1)), (7, di c)]) (by refine ⟨?_, ?_, ?_, by simp, ?_⟩ <;> (simp only [↓vp, vv, ↓reduceIte, simprocAttr, coverS, refsF, NetFr, NetHp, Seg.row, nmRow, Port.row, Stn.row] <;> try rfl))), ⟨a1.1, g2, segs, a1.2, hs, by omega, by omega, by rw [show ((c.toNat : Nat) : Int) = c by omega]; rfl⟩⟩, ?_⟩
 rintro m s ⟨at1, g2, segs, o1, hs, hs1, hs2, rfl⟩
 by_cases h1 : (0 : Int) < m
 ·have w1 : IntKind.i64.wrap ((m : Int) - 1) = ((m - 1 : Nat) : Int) := by rw [wrap_i (by omega)]; omega
  simp (maxSteps:=500000) only [↓vp, vv, ↓reduceIte, simprocAttr, c32, r32, c32_1, c32_10, c32_11, c32_12, c32_13, c32_14, c32_2, c32_3, c32_4, c32_5, c32_6, c32_7, c32_8, c32_9, T3, T2, T1, selI, selPick, selRange, selName, selSeg, NetHp, NetFr, Seg.enc, Seg.row, nmRow, Port.row, Stn.row, sz1, o1, h1]
  refine ⟨by omega, fun a1 x hx => ?_⟩
  unfold NPost at hx
  have w2 : IntKind.i64.wrap (x + 1) = x + 1 := wrap_i (by omega)
  simp only [w2]
  refine ⟨⟨by omega, by omega, by omega⟩, fun a2 y hy => ⟨by omega, fun a3 sg hsg => ?_⟩⟩
  unfold RPost at hy
  refine ⟨⟨by omega, by omega⟩, m - 1, _, by omega, (weak_eqA [] [i, (i.1 + 1, 2), (i.1 + 1, 3), (i.1 + 1, 1001), (i.1 + 1, 1002), (i.1 + 1, 1003), (i.1 + 1, 1004)] (NetFr i [(5, di (nodes.length - 1)), (7, di ((m - 1 : Nat) : Int))]) (by refine ⟨?_, ?_, ?_, by simp, ?_⟩ <;> (simp only [↓vp, vv, ↓reduceIte, simprocAttr, coverS, refsF, NetFr, NetHp, Seg.row, nmRow, Port.row, Stn.row, w1] <;> try rfl))), ⟨a3.1, g2 + 1, segs ++ [sg], a3.2, hs.snoc ⟨x, y, by omega, by omega, by omega, hsg, fun h => by omega⟩, by simp; omega, by simp; omega, ?_⟩⟩
  simp [NetHp, NetFr, Seg.row, sE]
 ·simp (maxSteps:=500000) only [↓vp, vv, ↓reduceIte, simprocAttr, c32, r32, c32_1, c32_10, c32_11, c32_12, c32_13, c32_14, c32_2, c32_3, c32_4, c32_5, c32_6, c32_7, c32_8, c32_9, T3, T2, T1, selI, selPick, selRange, selName, selSeg, NetHp, NetFr, Seg.enc, Seg.row, nmRow, Port.row, Stn.row, sz1, o1, h1]
  refine vc_wk (weak_eqA [] [i, (i.1 + 1, 2), (i.1 + 1, 3), (i.1 + 1, 1001), (i.1 + 1, 1002), (i.1 + 1, 1003), (i.1 + 1, 1004)] (NetFr i [(5, di (nodes.length - 1))]) (by refine ⟨?_, ?_, ?_, by simp, ?_⟩ <;> (simp only [↓vp, vv, ↓reduceIte, simprocAttr, coverS, refsF, NetFr, NetHp, Seg.row, nmRow, Port.row, Stn.row] <;> try rfl))) ?_
  exact Net_4 i L at1 o1 g1 nodes g2 segs vap set hn hn2 hs (by omega) hv hset
def NetI2 (i : Nm) (L : List (List D)) (g1 : Nat) (nodes : List ByteArray) (vap set : Int) : Nat → St → Prop := fun k s => ∃ at' g2 segs, SrcOk L at' ∧ AllI (SegAt (nodes.length - 1)) segs ∧ segs.length + k = nodes.length - 1 ∧ s = ⟨fr (NetFr i [(5, di (nodes.length - 1)), (6, di segs.length)]), NetHp i L at' g1 nodes g2 segs 0 [] 0 [] vap set⟩
set_option maxHeartbeats 8000000 in
theorem Net_2 (i : Nm) (L : List (List D)) (at' : Int) (ho : SrcOk L at') (g1 : Nat) (nodes : List ByteArray) (hn : AllI NodeOk nodes) (hn2 : 2 ≤ nodes.length ∧ nodes.length ≤ 6) (vap set : Int) (hv : -100000 ≤ vap ∧ vap ≤ 50000) (hset : 0 ≤ set ∧ set ≤ 100) :
  vc T3 (fun t => (i.1 + 1, t)) [i] c32_14 (finQ r32 [i] false (SrcR i L NetOk Net.enc)) ⟨fr (NetFr i []), NetHp i L at' g1 nodes 0 [] 0 [] 0 [] vap set⟩ := by
 have w0 : IntKind.i64.wrap ((nodes.length : Int) - 1) = nodes.length - 1 := wrap_i (by omega)
 simp (maxSteps:=500000) only [↓vp, vv, ↓reduceIte, simprocAttr, c32_14, T3, T2, T1, selI, selPick, selRange, selName, selSeg, ho, NetHp, NetFr, w0]
 rw [vc_loop]
 refine ⟨NetI2 i L g1 nodes vap set, ⟨nodes.length - 1, _, (weak_eqA [] [i, (i.1 + 1, 2), (i.1 + 1, 3), (i.1 + 1, 1001), (i.1 + 1, 1002), (i.1 + 1, 1003), (i.1 + 1, 1004)] (NetFr i [(5, di (nodes.length - 1)), (6, di 0)]) (by refine ⟨?_, ?_, ?_, by simp, ?_⟩ <;> (simp only [↓vp, vv, ↓reduceIte, simprocAttr, coverS, refsF, NetFr, NetHp, Seg.row, nmRow, Port.row, Stn.row] <;> try rfl))), ⟨at', 0, [], ho, AllI.nil _, by simp, rfl⟩⟩, ?_⟩
 rintro m s ⟨at1, g2, segs, o1, hs, hs2, rfl⟩
 by_cases h1 : (segs.length : Int) < (nodes.length : Int) - 1
 ·have w1 : IntKind.i64.wrap ((segs.length : Int) + 1) = segs.length + 1 := wrap_i (by omega)
  simp (maxSteps:=500000) only [↓vp, vv, ↓reduceIte, simprocAttr, c32, r32, c32_1, c32_10, c32_11, c32_12, c32_13, c32_14, c32_2, c32_3, c32_4, c32_5, c32_6, c32_7, c32_8, c32_9, T3, T2, T1, selI, selPick, selRange, selName, selSeg, NetHp, NetFr, Seg.enc, Seg.row, nmRow, Port.row, Stn.row, sz1, o1, h1, w1]
  refine ⟨by omega, fun a3 sg hsg => ?_⟩
  refine ⟨⟨by omega, by omega⟩, m - 1, _, by omega, (weak_eqA [] [i, (i.1 + 1, 2), (i.1 + 1, 3), (i.1 + 1, 1001), (i.1 + 1, 1002), (i.1 + 1, 1003), (i.1 + 1, 1004)] (NetFr i [(5, di (nodes.length - 1)), (6, di ((segs.length : Int) + 1))]) (by refine ⟨?_, ?_, ?_, by simp, ?_⟩ <;> (simp only [↓vp, vv, ↓reduceIte, simprocAttr, coverS, refsF, NetFr, NetHp, Seg.row, nmRow, Port.row, Stn.row, w1] <;> try rfl))), ⟨a3.1, g2 + 1, segs ++ [sg], a3.2, hs.snoc ⟨_, _, by omega, by omega, by omega, hsg, fun h => ⟨rfl, rfl⟩⟩, by simp; omega, ?_⟩⟩
  simp [NetHp, NetFr, Seg.row, sE]
 ·simp (maxSteps:=500000) only [↓vp, vv, ↓reduceIte, simprocAttr, c32, r32, c32_1, c32_10, c32_11, c32_12, c32_13, c32_14, c32_2, c32_3, c32_4, c32_5, c32_6, c32_7, c32_8, c32_9, T3, T2, T1, selI, selPick, selRange, selName, selSeg, NetHp, NetFr, Seg.enc, Seg.row, nmRow, Port.row, Stn.row, sz1, o1, h1]
  refine vc_wk (weak_eqA [] [i, (i.1 + 1, 2), (i.1 + 1, 3), (i.1 + 1, 1001), (i.1 + 1, 1002), (i.1 + 1, 1003), (i.1 + 1, 1004)] (NetFr i [(5, di (nodes.length - 1))]) (by refine ⟨?_, ?_, ?_, by simp, ?_⟩ <;> (simp only [↓vp, vv, ↓reduceIte, simprocAttr, coverS, refsF, NetFr, NetHp, Seg.row, nmRow, Port.row, Stn.row] <;> try rfl))) ?_
  exact Net_3 i L at1 o1 g1 nodes hn hn2 vap set hv hset g2 segs hs (by omega)
def NetI1 (i : Nm) (L : List (List D)) (vap set : Int) (c : Nat) : Nat → St → Prop := fun k s => ∃ at' g1 nodes, SrcOk L at' ∧ AllI NodeOk nodes ∧ nodes.length + k = c ∧ s = ⟨fr (NetFr i [(4, di k)]), NetHp i L at' g1 nodes 0 [] 0 [] 0 [] vap set⟩
theorem net_own (J : List Nm) (i : Nm) (L : List (List D)) (at' vap set : Int) (F : Fr) : Weak J ⟨F, ((Hp.none.put (i.1 + 1, 3) ⟨0, 6, [[.mt, .mt, .mt, .mt, di vap, di set]]⟩).put (i.1 + 1, 2) ⟨0, 6, [[.mt, .mt, .mt, .mt, di 0, di 0]]⟩).put i (sE L at')⟩ ⟨F, NetHp i L at' 0 [] 0 [] 0 [] 0 [] vap set⟩ := by
 refine (weak_ownC (i.1 + 1, 3) 0 6 [] [.mt, .mt, .mt, di vap, di set] (i.1 + 1, 1001) 1 (by simp only [↓vp, vv, ↓reduceIte, simprocAttr, ]) (by simp only [↓vp, vv, ↓reduceIte, simprocAttr, ])).trans ?_
 refine (weak_ownC (i.1 + 1, 3) 0 6 [.own (i.1 + 1, 1001) 0 0 0] [.mt, .mt, di vap, di set] (i.1 + 1, 1002) 7 (by simp only [↓vp, vv, ↓reduceIte, simprocAttr, ]) (by simp only [↓vp, vv, ↓reduceIte, simprocAttr, ])).trans ?_
 refine (weak_ownC (i.1 + 1, 3) 0 6 [.own (i.1 + 1, 1001) 0 0 0, .own (i.1 + 1, 1002) 0 0 0] [.mt, di vap, di set] (i.1 + 1, 1003) 3 (by simp only [↓vp, vv, ↓reduceIte, simprocAttr, ]) (by simp only [↓vp, vv, ↓reduceIte, simprocAttr, ])).trans ?_
 refine (weak_ownC (i.1 + 1, 3) 0 6 [.own (i.1 + 1, 1001) 0 0 0, .own (i.1 + 1, 1002) 0 0 0, .own (i.1 + 1, 1003) 0 0 0] [di vap, di set] (i.1 + 1, 1004) 5 (by simp only [↓vp, vv, ↓reduceIte, simprocAttr, ]) (by simp only [↓vp, vv, ↓reduceIte, simprocAttr, ])).trans ?_
 refine (Weak.refl _ _).trans (Eq.mp ?_ (Weak.refl J ⟨F, NetHp i L at' 0 [] 0 [] 0 [] 0 [] vap set⟩))
 congr 2
 funext j
 simp only [NetHp, hput_at, hno_at, List.map_nil, List.length_nil, List.nil_append, List.cons_append]
 by_cases h : j = i
 ·subst h; simp only [nm1, if_false, if_true]
 ·simp only [h, if_false]
  by_cases h3 : j = (i.1 + 1, 3)
  ·subst h3; simp
  ·simp only [h3, if_false]
   by_cases h2 : j = (i.1 + 1, 2)
   ·subst h2; simp
   ·simp only [h2, if_false]
    by_cases k1 : j = (i.1 + 1, 1001)
    ·subst k1; simp
    ·simp only [k1, if_false]
     by_cases k2 : j = (i.1 + 1, 1002)
     ·subst k2; simp
     ·simp only [k2, if_false]
      by_cases k3 : j = (i.1 + 1, 1003)
      ·subst k3; simp
      ·simp only [k3, if_false]
set_option maxHeartbeats 8000000 in
theorem Network_c : SrcC Try.prog 32 [] NetOk Net.enc := by
 intro i L at' nn ho
 obtain ⟨code, h1, h2⟩ := c32_ok
 refine callsA_of T3_ok mixed (N := fun t => (i.1 + 1, t)) Try.func32 h1 h2 r32_ok [i] false js_one js_one' (by simp [Try.f32]) ?_
 simp (maxSteps:=500000) only [↓vp, vv, ↓reduceIte, simprocAttr, c32, T3, T2, T1, selI, selPick, selRange, selName, selSeg, ho]
 intro a1 vap hvap a2 set hset a3 c hc
 simp [IsMem] at hvap hset
 unfold RPost at hc
 rw [vc_loop]
 have hI : NetI1 i L vap set c.toNat c.toNat ⟨fr (NetFr i [(4, di c)]), NetHp i L a3.1 0 [] 0 [] 0 [] 0 [] vap set⟩ := ⟨a3.1, 0, [], a3.2, AllI.nil _, by simp, by rw [show ((c.toNat : Nat) : Int) = c by omega]⟩
 refine ⟨NetI1 i L vap set c.toNat, ⟨c.toNat, _, Weak.trans ?_ (net_own [i] i L a3.1 vap set (fr (NetFr i [(4, di c)]))), hI⟩, ?_⟩
 ·exact (weak_eqA [] [i, (i.1 + 1, 2), (i.1 + 1, 3)] (NetFr i [(4, di c)]) (by refine ⟨?_, ?_, ?_, by simp, ?_⟩ <;> (simp only [↓vp, vv, ↓reduceIte, simprocAttr, coverS, refsF, NetFr] <;> try rfl)))
 rintro m s ⟨at1, g1, nodes, o1, hn, hm, rfl⟩
 by_cases h1 : (0 : Int) < m
 ·have w1 : IntKind.i64.wrap ((m : Int) - 1) = ((m - 1 : Nat) : Int) := by rw [wrap_i (by omega)]; omega
  simp (maxSteps:=500000) only [↓vp, vv, ↓reduceIte, simprocAttr, c32, r32, c32_1, c32_10, c32_11, c32_12, c32_13, c32_14, c32_2, c32_3, c32_4, c32_5, c32_6, c32_7, c32_8, c32_9, T3, T2, T1, selI, selPick, selRange, selName, selSeg, NetHp, NetFr, Seg.enc, Seg.row, nmRow, Port.row, Stn.row, sz1, o1, h1, w1]
  refine ⟨⟨by omega, by omega⟩, m - 1, _, by omega, (weak_eqA [] [i, (i.1 + 1, 2), (i.1 + 1, 3), (i.1 + 1, 1001), (i.1 + 1, 1002), (i.1 + 1, 1003), (i.1 + 1, 1004)] (NetFr i [(4, di ((m - 1 : Nat) : Int))]) (by refine ⟨?_, ?_, ?_, by simp, ?_⟩ <;> (simp only [↓vp, vv, ↓reduceIte, simprocAttr, coverS, refsF, NetFr, NetHp, Seg.row, nmRow, Port.row, Stn.row, w1] <;> try rfl))), ⟨at1, g1 + 1, nodes ++ [nm1B ⟨#[110]⟩ nodes.length], o1, hn.snoc rfl, by simp; omega, ?_⟩⟩
  simp [NetHp, NetFr, nmRow, sE]
 ·simp (maxSteps:=500000) only [↓vp, vv, ↓reduceIte, simprocAttr, c32, r32, c32_1, c32_10, c32_11, c32_12, c32_13, c32_14, c32_2, c32_3, c32_4, c32_5, c32_6, c32_7, c32_8, c32_9, T3, T2, T1, selI, selPick, selRange, selName, selSeg, NetHp, NetFr, Seg.enc, Seg.row, nmRow, Port.row, Stn.row, sz1, o1, h1]
  refine vc_wk (weak_eqA [] [i, (i.1 + 1, 2), (i.1 + 1, 3), (i.1 + 1, 1001), (i.1 + 1, 1002), (i.1 + 1, 1003), (i.1 + 1, 1004)] (NetFr i []) (by refine ⟨?_, ?_, ?_, by simp, ?_⟩ <;> (simp only [↓vp, vv, ↓reduceIte, simprocAttr, coverS, refsF, NetFr, NetHp, Seg.row, nmRow, Port.row, Stn.row] <;> try rfl))) ?_
  exact Net_2 i L at1 o1 g1 nodes hn (by omega) vap set (by omega) (by omega)
set_option maxHeartbeats 4000000 in
theorem rname_c (s : ByteArray) (nn : Nm) : CallsA Try.prog 68 [ds s] Hp.none nn (Pu (db (nameB s)) Hp.none) := by
 obtain ⟨code, h1, h2⟩ := c68_ok
 refine callsA_of (T0_ok _) mixed (N := fun t => (0, t)) Try.func68 h1 h2 r68_ok [] false js_nil js_nil' (by simp [Try.f68]) ?_
 by_cases a1 : (s.size : Int) < 1
 ·have b1 : s.size < 1 := by omega
  simp (maxSteps:=500000) only [↓vp, vv, ↓reduceIte, simprocAttr, c68, r68, c68_1, c68_2, c68_3, c68_4, c68_5, a1, b1, nameB, Pu, decide_true, decide_false]
 ·by_cases a2 : (12 : Int) < s.size
  ·have b1 : ¬ s.size < 1 := by omega
   have b2 : 12 < s.size := by omega
   simp (maxSteps:=500000) only [↓vp, vv, ↓reduceIte, simprocAttr, c68, r68, c68_1, c68_2, c68_3, c68_4, c68_5, a1, a2, b1, b2, nameB, Pu, decide_true, decide_false]
  ·have b1 : ¬ s.size < 1 := by omega
   have b2 : ¬ 12 < s.size := by omega
   have b3 : (0 : Int) < s.size := by omega
   by_cases a3 : byteI s 0 < 97
   ·have p0 : ¬ placeI (byteI s 0) = 1 := by unfold placeI; split <;> (try split) <;> (try split) <;> omega
    simp (maxSteps:=500000) only [↓vp, vv, ↓reduceIte, simprocAttr, c68, r68, c68_1, c68_2, c68_3, c68_4, c68_5, a1, a2, a3, b1, b2, b3, p0, byteI_eq, nameB, Pu, decide_true, decide_false]
   by_cases a4 : 122 < byteI s 0
   ·have p0 : ¬ placeI (byteI s 0) = 1 := by unfold placeI; split <;> (try split) <;> (try split) <;> omega
    simp (maxSteps:=500000) only [↓vp, vv, ↓reduceIte, simprocAttr, c68, r68, c68_1, c68_2, c68_3, c68_4, c68_5, a1, a2, a3, a4, b1, b2, b3, p0, byteI_eq, nameB, Pu, decide_true, decide_false]
   have p0 : placeI (byteI s 0) = 1 := by unfold placeI; rw [if_pos (by omega)]
   have e0 : nameB s = (bytesI s).all (fun c => decide (placeI c ≠ 0)) := by unfold nameB; rw [if_neg b1, if_neg b2, if_pos p0]
   rw [e0]
   generalize hb : (bytesI s).all (fun c => decide (placeI c ≠ 0)) = b
   simp (maxSteps:=500000) only [↓vp, vv, ↓reduceIte, simprocAttr, c68, c68_5, a1, a2, a3, a4, b3, byteI_eq, decide_true, decide_false]
   refine rng_loop s.size (fun j => ⟨fr [(0, ds s), (3, di j)], Hp.none⟩) (fun j => ((bytesI s).drop j).all (fun c => decide (placeI c ≠ 0)) = b) (weak0 (by simp only [↓vp, vv, ↓reduceIte, simprocAttr, coverS]) (by simp only [↓vp, vv, ↓reduceIte, simprocAttr, refsF])) hb (fun j hj he => ?_) (fun he => ?_)
   ·have hj' : (j : Int) < s.size := by omega
    have hn := idx_nn j
    have w1 := idx_next (j := j) (by omega)
    obtain ⟨hf, ht⟩ := drop_all (by rw [bytesI_len]; exact hj) he
    rw [bytesI_at] at hf ht
    generalize hc : byteI s j = c at hf ht
    by_cases c1 : c < 97
    ·by_cases c2 : c < 48
     ·by_cases c3 : c = 45
      ·have p0 : ¬ placeI c = 0 := by unfold placeI; split <;> (try split) <;> (try split) <;> omega
       have q : (c != 45) = false := by simp; omega
       simp (maxSteps:=500000) only [↓vp, vv, ↓reduceIte, simprocAttr, c68, r68, c68_1, c68_2, c68_3, c68_4, c68_5, hj', hn, Int.toNat_natCast, byteI_eq, hc, w1, Pu, decide_true, decide_false, c1, c2, q]
       exact rng_next hj (weak0 (by simp only [↓vp, vv, ↓reduceIte, simprocAttr, coverS, w1]) (by simp only [↓vp, vv, ↓reduceIte, simprocAttr, refsF])) (ht (by simp [p0]))
      ·have p0 : placeI c = 0 := by unfold placeI; rw [if_neg (by omega), if_neg (by omega), if_neg (by omega)]
       have e5 : b = false := hf (by simp [p0])
       subst e5
       have q : (c != 45) = true := by simp; omega
       simp (maxSteps:=500000) only [↓vp, vv, ↓reduceIte, simprocAttr, c68, r68, c68_1, c68_2, c68_3, c68_4, c68_5, hj', hn, Int.toNat_natCast, byteI_eq, hc, w1, Pu, decide_true, decide_false, c1, c2, q]
     ·by_cases c3 : 57 < c
      ·have p0 : placeI c = 0 := by unfold placeI; rw [if_neg (by omega), if_neg (by omega), if_neg (by omega)]
       have e5 : b = false := hf (by simp [p0])
       subst e5
       have q : (c != 45) = true := by simp; omega
       simp (maxSteps:=500000) only [↓vp, vv, ↓reduceIte, simprocAttr, c68, r68, c68_1, c68_2, c68_3, c68_4, c68_5, hj', hn, Int.toNat_natCast, byteI_eq, hc, w1, Pu, decide_true, decide_false, c1, c2, c3, q]
      ·have p0 : ¬ placeI c = 0 := by unfold placeI; split <;> (try split) <;> (try split) <;> omega
       simp (maxSteps:=500000) only [↓vp, vv, ↓reduceIte, simprocAttr, c68, r68, c68_1, c68_2, c68_3, c68_4, c68_5, hj', hn, Int.toNat_natCast, byteI_eq, hc, w1, Pu, decide_true, decide_false, c1, c2, c3]
       exact rng_next hj (weak0 (by simp only [↓vp, vv, ↓reduceIte, simprocAttr, coverS, w1]) (by simp only [↓vp, vv, ↓reduceIte, simprocAttr, refsF])) (ht (by simp [p0]))
    ·by_cases c2 : 122 < c
     ·have c3 : ¬ c < 48 := by omega
      have c4 : 57 < c := by omega
      have p0 : placeI c = 0 := by unfold placeI; rw [if_neg (by omega), if_neg (by omega), if_neg (by omega)]
      have e5 : b = false := hf (by simp [p0])
      subst e5
      have q : (c != 45) = true := by simp; omega
      simp (maxSteps:=500000) only [↓vp, vv, ↓reduceIte, simprocAttr, c68, r68, c68_1, c68_2, c68_3, c68_4, c68_5, hj', hn, Int.toNat_natCast, byteI_eq, hc, w1, Pu, decide_true, decide_false, c1, c2, c3, c4, q]
     ·have p0 : ¬ placeI c = 0 := by unfold placeI; split <;> (try split) <;> (try split) <;> omega
      simp (maxSteps:=500000) only [↓vp, vv, ↓reduceIte, simprocAttr, c68, r68, c68_1, c68_2, c68_3, c68_4, c68_5, hj', hn, Int.toNat_natCast, byteI_eq, hc, w1, Pu, decide_true, decide_false, c1, c2]
      exact rng_next hj (weak0 (by simp only [↓vp, vv, ↓reduceIte, simprocAttr, coverS, w1]) (by simp only [↓vp, vv, ↓reduceIte, simprocAttr, refsF])) (ht (by simp [p0]))
   ·have e5 : b = true := drop_all_end (by rw [bytesI_len]; exact he)
    subst e5
    simp (maxSteps:=500000) only [↓vp, vv, ↓reduceIte, simprocAttr, c68, r68, c68_1, c68_2, c68_3, c68_4, c68_5, Int.lt_irrefl, Pu, decide_true, decide_false]
def nmsD (n : Net) : D := .agg [.sl (n.nodes.map nmRow), .sl ((n.segs.map (·.name)).map nmRow), .sl ((n.ports.map (·.name)).map nmRow), .sl ((n.sts.map (·.name)).map nmRow)]
def NmHp (n : Net) (g1 : Nat) (a : List ByteArray) (g2 : Nat) (b : List ByteArray) (g3 : Nat) (c : List ByteArray) : Hp :=
 (((((Hp.none.put (0, 1003) ⟨g3, 1, c.map nmRow⟩).put (0, 1002) ⟨g2, 1, b.map nmRow⟩).put (0, 1001) ⟨g1, 1, a.map nmRow⟩).put (0, 3) ⟨0, 4, [[.sl (n.nodes.map nmRow), .own (0, 1001) g1 0 a.length, .own (0, 1002) g2 0 b.length, .own (0, 1003) g3 0 c.length]]⟩).put (0, 2) ⟨0, 4, [[.mt, .mt, .mt, .mt]]⟩).put (0, 1) ⟨0, 6, [[.sl (n.nodes.map nmRow), .sl (n.segs.map Seg.row), .sl (n.ports.map Port.row), .sl (n.sts.map Stn.row), di n.vap, di n.set]]⟩
def NmFr (l : List (Nat × D)) : List (Nat × D) := (1, .ptr (0, 1) 0 0 0) :: (2, .ptr (0, 2) 0 0 0) :: (3, .ptr (0, 3) 0 0 0) :: l
theorem nm_own (n : Net) (J : List Nm) (F : Fr) : Weak J ⟨F, ((Hp.none.put (0, 3) ⟨0, 4, [[.sl (n.nodes.map nmRow), .mt, .mt, .mt]]⟩).put (0, 2) ⟨0, 4, [[.mt, .mt, .mt, .mt]]⟩).put (0, 1) ⟨0, 6, [[.sl (n.nodes.map nmRow), .sl (n.segs.map Seg.row), .sl (n.ports.map Port.row), .sl (n.sts.map Stn.row), di n.vap, di n.set]]⟩⟩ ⟨F, NmHp n 0 [] 0 [] 0 []⟩ := by
 refine (weak_ownC (0, 3) 0 4 [.sl (n.nodes.map nmRow)] [.mt, .mt] (0, 1001) 1 (by simp only [↓vp, vv, ↓reduceIte, simprocAttr, ]) (by simp only [↓vp, vv, ↓reduceIte, simprocAttr, ])).trans ?_
 refine (weak_ownC (0, 3) 0 4 [.sl (n.nodes.map nmRow), .own (0, 1001) 0 0 0] [.mt] (0, 1002) 1 (by simp only [↓vp, vv, ↓reduceIte, simprocAttr, ]) (by simp only [↓vp, vv, ↓reduceIte, simprocAttr, ])).trans ?_
 refine (weak_ownC (0, 3) 0 4 [.sl (n.nodes.map nmRow), .own (0, 1001) 0 0 0, .own (0, 1002) 0 0 0] [] (0, 1003) 1 (by simp only [↓vp, vv, ↓reduceIte, simprocAttr, ]) (by simp only [↓vp, vv, ↓reduceIte, simprocAttr, ])).trans ?_
 refine (Weak.refl _ _).trans (Eq.mp ?_ (Weak.refl J ⟨F, NmHp n 0 [] 0 [] 0 []⟩))
 congr 2
 funext j
 simp only [NmHp, hput_at, hno_at, List.map_nil, List.length_nil, List.nil_append, List.cons_append]
 by_cases h1 : j = (0, 1)
 ·subst h1; simp
 ·simp only [h1, if_false]
  by_cases h3 : j = (0, 3)
  ·subst h3; simp
  ·simp only [h3, if_false]
   by_cases h2 : j = (0, 2)
   ·subst h2; simp
   ·simp only [h2, if_false]
    by_cases k1 : j = (0, 1001)
    ·subst k1; simp
    ·simp only [k1, if_false]
     by_cases k2 : j = (0, 1002)
     ·subst k2; simp
     ·simp only [k2, if_false]
set_option maxHeartbeats 8000000 in
theorem pnames_c (n : Net) (hs : n.segs.length ≤ 1000000) (hp : n.ports.length ≤ 1000000) (ht : n.sts.length ≤ 1000000) (nn : Nm) : CallsA Try.prog 133 [n.enc] Hp.none nn (Pu (nmsD n) Hp.none) := by
 obtain ⟨code, h1, h2⟩ := c133_ok
 refine callsA_of (T0_ok _) mixed (N := fun t => (0, t)) Try.func133 h1 h2 r133_ok [] false js_nil js_nil' (by simp [Try.f133]) ?_
 simp (maxSteps:=500000) only [↓vp, vv, ↓reduceIte, simprocAttr, c133, Net.enc]
 rw [vc_loop]
 refine ⟨fun m s => ∃ (j g : Nat), j + m = n.segs.length ∧ s = ⟨fr (NmFr [(14, .sl (n.segs.map Seg.row)), (15, di n.segs.length), (16, di j)]), NmHp n g ((n.segs.take j).map (·.name)) 0 [] 0 []⟩, ⟨n.segs.length, _, Weak.trans ?_ (nm_own n [] _), 0, 0, by omega, rfl⟩, ?_⟩
 ·exact weak_eq [] [(0, 1), (0, 2), (0, 3)] (NmFr [(14, .sl (n.segs.map Seg.row)), (15, di n.segs.length), (16, di 0)]) (by simp only [↓vp, vv, ↓reduceIte, simprocAttr, coverS, NmFr]) (by simp only [↓vp, vv, ↓reduceIte, simprocAttr, refsF, NmFr]) (by simp only [↓vp, vv, ↓reduceIte, simprocAttr, ]) (by simp) (by simp only [↓vp, vv, ↓reduceIte, simprocAttr, ]; try rfl)
 rintro m s ⟨j, g1, hj, rfl⟩
 by_cases hlt : j < n.segs.length
 ·have hlt' : (j : Int) < n.segs.length := by omega
  have hn := idx_nn j
  have hg := getD_map Seg.row n.segs j hlt
  have w1 := idx_next (j := j) (by omega)
  have htk : (n.segs.take (j + 1)).map (·.name) = (n.segs.take j).map (·.name) ++ [n.segs[j].name] := by rw [← List.take_append_getElem hlt, List.map_append]; rfl
  generalize n.segs[j] = x at hg htk
  have hlen : (n.segs.take j).length = j := by rw [List.length_take]; omega
  have hlen2 : (n.segs.take (j + 1)).length = j + 1 := by rw [List.length_take]; omega
  simp (maxSteps:=500000) only [↓vp, vv, ↓reduceIte, simprocAttr, c133_2, c133_1, NmFr, NmHp, hlt', hn, Int.toNat_natCast, hg, Seg.row, nmRow, w1, hlen]
  refine ⟨⟨by omega, by omega⟩, m - 1, _, by omega, weak_eq [] [(0, 1), (0, 2), (0, 3), (0, 1001), (0, 1002), (0, 1003)] (NmFr [(14, .sl (n.segs.map Seg.row)), (15, di n.segs.length), (16, di (j + 1 : Nat))]) (by simp only [↓vp, vv, ↓reduceIte, simprocAttr, coverS, NmFr, Seg.row, w1]) (by simp only [↓vp, vv, ↓reduceIte, simprocAttr, refsF, NmFr]) (by simp only [↓vp, vv, ↓reduceIte, simprocAttr, NmHp, nmRow]) (by simp) (by simp only [↓vp, vv, ↓reduceIte, simprocAttr, NmHp, nmRow]; try rfl), j + 1, g1 + 1, by omega, ?_⟩
  simp only [htk, NmHp, NmFr, List.map_append, List.map_cons, List.map_nil, nmRow, List.length_append, List.length_map, hlen, hlen2, List.length_singleton, Seg.row]
 ·have hlt' : ¬ (j : Int) < n.segs.length := by omega
  obtain rfl : j = n.segs.length := by omega
  simp only [List.take_length]
  simp (maxSteps:=500000) only [↓vp, vv, ↓reduceIte, simprocAttr, c133_2, c133_9, NmFr, NmHp, hlt', Int.lt_irrefl]
  rw [vc_loop]
  refine ⟨fun m s => ∃ (j g : Nat), j + m = n.ports.length ∧ s = ⟨fr (NmFr [(29, .sl (n.ports.map Port.row)), (30, di n.ports.length), (31, di j)]), NmHp n g1 (n.segs.map (·.name)) g ((n.ports.take j).map (·.name)) 0 []⟩, ⟨n.ports.length, _, (weak_eq [] [(0, 1), (0, 2), (0, 3), (0, 1001), (0, 1002), (0, 1003)] (NmFr [(29, .sl (n.ports.map Port.row)), (30, di n.ports.length), (31, di 0)]) (by simp only [↓vp, vv, ↓reduceIte, simprocAttr, coverS, NmFr, NmHp]) (by simp only [↓vp, vv, ↓reduceIte, simprocAttr, refsF, NmFr]) (by simp only [↓vp, vv, ↓reduceIte, simprocAttr, NmHp, nmRow]) (by simp) (by simp only [↓vp, vv, ↓reduceIte, simprocAttr, NmHp]; try rfl)), 0, 0, by omega, by simp [NmHp]⟩, ?_⟩
  rintro m s ⟨j, g2, hj, rfl⟩
  by_cases hlt : j < n.ports.length
  ·have hlt' : (j : Int) < n.ports.length := by omega
   have hn := idx_nn j
   have hg := getD_map Port.row n.ports j hlt
   have w1 := idx_next (j := j) (by omega)
   have htk : (n.ports.take (j + 1)).map (·.name) = (n.ports.take j).map (·.name) ++ [n.ports[j].name] := by rw [← List.take_append_getElem hlt, List.map_append]; rfl
   generalize n.ports[j] = x at hg htk
   have hlen : (n.ports.take j).length = j := by rw [List.length_take]; omega
   have hlen2 : (n.ports.take (j + 1)).length = j + 1 := by rw [List.length_take]; omega
   simp (maxSteps:=500000) only [↓vp, vv, ↓reduceIte, simprocAttr, c133_4, c133_3, NmFr, NmHp, hlt', hn, Int.toNat_natCast, hg, Port.row, nmRow, w1, hlen]
   refine ⟨⟨by omega, by omega⟩, m - 1, _, by omega, weak_eq [] [(0, 1), (0, 2), (0, 3), (0, 1001), (0, 1002), (0, 1003)] (NmFr [(29, .sl (n.ports.map Port.row)), (30, di n.ports.length), (31, di (j + 1 : Nat))]) (by simp only [↓vp, vv, ↓reduceIte, simprocAttr, coverS, NmFr, Port.row, w1]) (by simp only [↓vp, vv, ↓reduceIte, simprocAttr, refsF, NmFr]) (by simp only [↓vp, vv, ↓reduceIte, simprocAttr, NmHp, nmRow]) (by simp) (by simp only [↓vp, vv, ↓reduceIte, simprocAttr, NmHp, nmRow]; try rfl), j + 1, g2 + 1, by omega, ?_⟩
   simp only [htk, NmHp, NmFr, List.map_append, List.map_cons, List.map_nil, nmRow, List.length_append, List.length_map, hlen, hlen2, List.length_singleton, Port.row]
  ·have hlt' : ¬ (j : Int) < n.ports.length := by omega
   obtain rfl : j = n.ports.length := by omega
   simp only [List.take_length]
   simp (maxSteps:=500000) only [↓vp, vv, ↓reduceIte, simprocAttr, c133_4, c133_8, NmFr, NmHp, hlt', Int.lt_irrefl]
   rw [vc_loop]
   refine ⟨fun m s => ∃ (j g : Nat), j + m = n.sts.length ∧ s = ⟨fr (NmFr [(44, .sl (n.sts.map Stn.row)), (45, di n.sts.length), (46, di j)]), NmHp n g1 (n.segs.map (·.name)) g2 (n.ports.map (·.name)) g ((n.sts.take j).map (·.name))⟩, ⟨n.sts.length, _, (weak_eq [] [(0, 1), (0, 2), (0, 3), (0, 1001), (0, 1002), (0, 1003)] (NmFr [(44, .sl (n.sts.map Stn.row)), (45, di n.sts.length), (46, di 0)]) (by simp only [↓vp, vv, ↓reduceIte, simprocAttr, coverS, NmFr, NmHp]) (by simp only [↓vp, vv, ↓reduceIte, simprocAttr, refsF, NmFr]) (by simp only [↓vp, vv, ↓reduceIte, simprocAttr, NmHp, nmRow]) (by simp) (by simp only [↓vp, vv, ↓reduceIte, simprocAttr, NmHp]; try rfl)), 0, 0, by omega, by simp [NmHp]⟩, ?_⟩
   rintro m s ⟨j, g3, hj, rfl⟩
   by_cases hlt : j < n.sts.length
   ·have hlt' : (j : Int) < n.sts.length := by omega
    have hn := idx_nn j
    have hg := getD_map Stn.row n.sts j hlt
    have w1 := idx_next (j := j) (by omega)
    have htk : (n.sts.take (j + 1)).map (·.name) = (n.sts.take j).map (·.name) ++ [n.sts[j].name] := by rw [← List.take_append_getElem hlt, List.map_append]; rfl
    generalize n.sts[j] = x at hg htk
    have hlen : (n.sts.take j).length = j := by rw [List.length_take]; omega
    have hlen2 : (n.sts.take (j + 1)).length = j + 1 := by rw [List.length_take]; omega
    simp (maxSteps:=500000) only [↓vp, vv, ↓reduceIte, simprocAttr, c133_6, c133_5, NmFr, NmHp, hlt', hn, Int.toNat_natCast, hg, Stn.row, nmRow, w1, hlen]
    refine ⟨⟨by omega, by omega⟩, m - 1, _, by omega, weak_eq [] [(0, 1), (0, 2), (0, 3), (0, 1001), (0, 1002), (0, 1003)] (NmFr [(44, .sl (n.sts.map Stn.row)), (45, di n.sts.length), (46, di (j + 1 : Nat))]) (by simp only [↓vp, vv, ↓reduceIte, simprocAttr, coverS, NmFr, Stn.row, w1]) (by simp only [↓vp, vv, ↓reduceIte, simprocAttr, refsF, NmFr]) (by simp only [↓vp, vv, ↓reduceIte, simprocAttr, NmHp, nmRow]) (by simp) (by simp only [↓vp, vv, ↓reduceIte, simprocAttr, NmHp, nmRow]; try rfl), j + 1, g3 + 1, by omega, ?_⟩
    simp only [htk, NmHp, NmFr, List.map_append, List.map_cons, List.map_nil, nmRow, List.length_append, List.length_map, hlen, hlen2, List.length_singleton, Stn.row]
   ·have hlt' : ¬ (j : Int) < n.sts.length := by omega
    obtain rfl : j = n.sts.length := by omega
    simp only [List.take_length]
    simp (maxSteps:=500000) only [↓vp, vv, ↓reduceIte, simprocAttr, c133_6, c133_7, r133, NmFr, NmHp, hlt', Int.lt_irrefl, nmRow, nmsD, Pu]
    simp [List.take_of_length_le]
set_option maxHeartbeats 8000000 in
theorem rnames_c (n : Net) (hs : n.segs.length ≤ 1000000) (hp : n.ports.length ≤ 1000000) (ht : n.sts.length ≤ 1000000) (nn : Nm) : CallsA Try.prog 140 [n.enc] Hp.none nn (Pu (nmsD n) Hp.none) := by
 obtain ⟨code, h1, h2⟩ := c140_ok
 refine callsA_of (T0_ok _) mixed (N := fun t => (0, t)) Try.func140 h1 h2 r140_ok [] false js_nil js_nil' (by simp [Try.f140]) ?_
 simp (maxSteps:=500000) only [↓vp, vv, ↓reduceIte, simprocAttr, c140, Net.enc]
 rw [vc_loop]
 refine ⟨fun m s => ∃ (j g : Nat), j + m = n.segs.length ∧ s = ⟨fr (NmFr [(14, .sl (n.segs.map Seg.row)), (15, di n.segs.length), (16, di j)]), NmHp n g ((n.segs.take j).map (·.name)) 0 [] 0 []⟩, ⟨n.segs.length, _, Weak.trans ?_ (nm_own n [] _), 0, 0, by omega, rfl⟩, ?_⟩
 ·exact weak_eq [] [(0, 1), (0, 2), (0, 3)] (NmFr [(14, .sl (n.segs.map Seg.row)), (15, di n.segs.length), (16, di 0)]) (by simp only [↓vp, vv, ↓reduceIte, simprocAttr, coverS, NmFr]) (by simp only [↓vp, vv, ↓reduceIte, simprocAttr, refsF, NmFr]) (by simp only [↓vp, vv, ↓reduceIte, simprocAttr, ]) (by simp) (by simp only [↓vp, vv, ↓reduceIte, simprocAttr, ]; try rfl)
 rintro m s ⟨j, g1, hj, rfl⟩
 by_cases hlt : j < n.segs.length
 ·have hlt' : (j : Int) < n.segs.length := by omega
  have hn := idx_nn j
  have hg := getD_map Seg.row n.segs j hlt
  have w1 := idx_next (j := j) (by omega)
  have htk : (n.segs.take (j + 1)).map (·.name) = (n.segs.take j).map (·.name) ++ [n.segs[j].name] := by rw [← List.take_append_getElem hlt, List.map_append]; rfl
  generalize n.segs[j] = x at hg htk
  have hlen : (n.segs.take j).length = j := by rw [List.length_take]; omega
  have hlen2 : (n.segs.take (j + 1)).length = j + 1 := by rw [List.length_take]; omega
  simp (maxSteps:=500000) only [↓vp, vv, ↓reduceIte, simprocAttr, c140_2, c140_1, NmFr, NmHp, hlt', hn, Int.toNat_natCast, hg, Seg.row, nmRow, w1, hlen]
  refine ⟨⟨by omega, by omega⟩, m - 1, _, by omega, weak_eq [] [(0, 1), (0, 2), (0, 3), (0, 1001), (0, 1002), (0, 1003)] (NmFr [(14, .sl (n.segs.map Seg.row)), (15, di n.segs.length), (16, di (j + 1 : Nat))]) (by simp only [↓vp, vv, ↓reduceIte, simprocAttr, coverS, NmFr, Seg.row, w1]) (by simp only [↓vp, vv, ↓reduceIte, simprocAttr, refsF, NmFr]) (by simp only [↓vp, vv, ↓reduceIte, simprocAttr, NmHp, nmRow]) (by simp) (by simp only [↓vp, vv, ↓reduceIte, simprocAttr, NmHp, nmRow]; try rfl), j + 1, g1 + 1, by omega, ?_⟩
  simp only [htk, NmHp, NmFr, List.map_append, List.map_cons, List.map_nil, nmRow, List.length_append, List.length_map, hlen, hlen2, List.length_singleton, Seg.row]
 ·have hlt' : ¬ (j : Int) < n.segs.length := by omega
  obtain rfl : j = n.segs.length := by omega
  simp only [List.take_length]
  simp (maxSteps:=500000) only [↓vp, vv, ↓reduceIte, simprocAttr, c140_2, c140_9, NmFr, NmHp, hlt', Int.lt_irrefl]
  rw [vc_loop]
  refine ⟨fun m s => ∃ (j g : Nat), j + m = n.ports.length ∧ s = ⟨fr (NmFr [(29, .sl (n.ports.map Port.row)), (30, di n.ports.length), (31, di j)]), NmHp n g1 (n.segs.map (·.name)) g ((n.ports.take j).map (·.name)) 0 []⟩, ⟨n.ports.length, _, (weak_eq [] [(0, 1), (0, 2), (0, 3), (0, 1001), (0, 1002), (0, 1003)] (NmFr [(29, .sl (n.ports.map Port.row)), (30, di n.ports.length), (31, di 0)]) (by simp only [↓vp, vv, ↓reduceIte, simprocAttr, coverS, NmFr, NmHp]) (by simp only [↓vp, vv, ↓reduceIte, simprocAttr, refsF, NmFr]) (by simp only [↓vp, vv, ↓reduceIte, simprocAttr, NmHp, nmRow]) (by simp) (by simp only [↓vp, vv, ↓reduceIte, simprocAttr, NmHp]; try rfl)), 0, 0, by omega, by simp [NmHp]⟩, ?_⟩
  rintro m s ⟨j, g2, hj, rfl⟩
  by_cases hlt : j < n.ports.length
  ·have hlt' : (j : Int) < n.ports.length := by omega
   have hn := idx_nn j
   have hg := getD_map Port.row n.ports j hlt
   have w1 := idx_next (j := j) (by omega)
   have htk : (n.ports.take (j + 1)).map (·.name) = (n.ports.take j).map (·.name) ++ [n.ports[j].name] := by rw [← List.take_append_getElem hlt, List.map_append]; rfl
   generalize n.ports[j] = x at hg htk
   have hlen : (n.ports.take j).length = j := by rw [List.length_take]; omega
   have hlen2 : (n.ports.take (j + 1)).length = j + 1 := by rw [List.length_take]; omega
   simp (maxSteps:=500000) only [↓vp, vv, ↓reduceIte, simprocAttr, c140_4, c140_3, NmFr, NmHp, hlt', hn, Int.toNat_natCast, hg, Port.row, nmRow, w1, hlen]
   refine ⟨⟨by omega, by omega⟩, m - 1, _, by omega, weak_eq [] [(0, 1), (0, 2), (0, 3), (0, 1001), (0, 1002), (0, 1003)] (NmFr [(29, .sl (n.ports.map Port.row)), (30, di n.ports.length), (31, di (j + 1 : Nat))]) (by simp only [↓vp, vv, ↓reduceIte, simprocAttr, coverS, NmFr, Port.row, w1]) (by simp only [↓vp, vv, ↓reduceIte, simprocAttr, refsF, NmFr]) (by simp only [↓vp, vv, ↓reduceIte, simprocAttr, NmHp, nmRow]) (by simp) (by simp only [↓vp, vv, ↓reduceIte, simprocAttr, NmHp, nmRow]; try rfl), j + 1, g2 + 1, by omega, ?_⟩
   simp only [htk, NmHp, NmFr, List.map_append, List.map_cons, List.map_nil, nmRow, List.length_append, List.length_map, hlen, hlen2, List.length_singleton, Port.row]
  ·have hlt' : ¬ (j : Int) < n.ports.length := by omega
   obtain rfl : j = n.ports.length := by omega
   simp only [List.take_length]
   simp (maxSteps:=500000) only [↓vp, vv, ↓reduceIte, simprocAttr, c140_4, c140_8, NmFr, NmHp, hlt', Int.lt_irrefl]
   rw [vc_loop]
   refine ⟨fun m s => ∃ (j g : Nat), j + m = n.sts.length ∧ s = ⟨fr (NmFr [(44, .sl (n.sts.map Stn.row)), (45, di n.sts.length), (46, di j)]), NmHp n g1 (n.segs.map (·.name)) g2 (n.ports.map (·.name)) g ((n.sts.take j).map (·.name))⟩, ⟨n.sts.length, _, (weak_eq [] [(0, 1), (0, 2), (0, 3), (0, 1001), (0, 1002), (0, 1003)] (NmFr [(44, .sl (n.sts.map Stn.row)), (45, di n.sts.length), (46, di 0)]) (by simp only [↓vp, vv, ↓reduceIte, simprocAttr, coverS, NmFr, NmHp]) (by simp only [↓vp, vv, ↓reduceIte, simprocAttr, refsF, NmFr]) (by simp only [↓vp, vv, ↓reduceIte, simprocAttr, NmHp, nmRow]) (by simp) (by simp only [↓vp, vv, ↓reduceIte, simprocAttr, NmHp]; try rfl)), 0, 0, by omega, by simp [NmHp]⟩, ?_⟩
   rintro m s ⟨j, g3, hj, rfl⟩
   by_cases hlt : j < n.sts.length
   ·have hlt' : (j : Int) < n.sts.length := by omega
    have hn := idx_nn j
    have hg := getD_map Stn.row n.sts j hlt
    have w1 := idx_next (j := j) (by omega)
    have htk : (n.sts.take (j + 1)).map (·.name) = (n.sts.take j).map (·.name) ++ [n.sts[j].name] := by rw [← List.take_append_getElem hlt, List.map_append]; rfl
    generalize n.sts[j] = x at hg htk
    have hlen : (n.sts.take j).length = j := by rw [List.length_take]; omega
    have hlen2 : (n.sts.take (j + 1)).length = j + 1 := by rw [List.length_take]; omega
    simp (maxSteps:=500000) only [↓vp, vv, ↓reduceIte, simprocAttr, c140_6, c140_5, NmFr, NmHp, hlt', hn, Int.toNat_natCast, hg, Stn.row, nmRow, w1, hlen]
    refine ⟨⟨by omega, by omega⟩, m - 1, _, by omega, weak_eq [] [(0, 1), (0, 2), (0, 3), (0, 1001), (0, 1002), (0, 1003)] (NmFr [(44, .sl (n.sts.map Stn.row)), (45, di n.sts.length), (46, di (j + 1 : Nat))]) (by simp only [↓vp, vv, ↓reduceIte, simprocAttr, coverS, NmFr, Stn.row, w1]) (by simp only [↓vp, vv, ↓reduceIte, simprocAttr, refsF, NmFr]) (by simp only [↓vp, vv, ↓reduceIte, simprocAttr, NmHp, nmRow]) (by simp) (by simp only [↓vp, vv, ↓reduceIte, simprocAttr, NmHp, nmRow]; try rfl), j + 1, g3 + 1, by omega, ?_⟩
    simp only [htk, NmHp, NmFr, List.map_append, List.map_cons, List.map_nil, nmRow, List.length_append, List.length_map, hlen, hlen2, List.length_singleton, Stn.row]
   ·have hlt' : ¬ (j : Int) < n.sts.length := by omega
    obtain rfl : j = n.sts.length := by omega
    simp only [List.take_length]
    simp (maxSteps:=500000) only [↓vp, vv, ↓reduceIte, simprocAttr, c140_6, c140_7, r140, NmFr, NmHp, hlt', Int.lt_irrefl, nmRow, nmsD, Pu]
    simp [List.take_of_length_le]
def netD (n : Net) : List D := [.sl (n.nodes.map nmRow), .sl (n.segs.map Seg.row), .sl (n.ports.map Port.row), .sl (n.sts.map Stn.row), di n.vap, di n.set]
structure NetSz (n : Net) : Prop where
 nodes : n.nodes.length ≤ 1000000
 segs : n.segs.length ≤ 1000000
 ports : n.ports.length ≤ 1000000
 sts : n.sts.length ≤ 1000000
 pts : ∀ s ∈ n.segs, s.points.length ≤ 1000000
theorem Seg.done (s : Seg) : doneL s.row = true := rfl
theorem Port.done (s : Port) : doneL s.row = true := rfl
theorem Stn.done (s : Stn) : doneL s.row = true := rfl
def ptsBad (s : Seg) : Bool := if decide ((s.points.length : Int) < 2) = true then true else decide ((8 : Int) < s.points.length)
def limB (n : Net) : Bool := if (n.nodes.length : Int) < 1 then false else if (24 : Int) < n.nodes.length then false else if (32 : Int) < n.segs.length then false else if (24 : Int) < n.ports.length then false else if (12 : Int) < n.sts.length then false else !(n.segs.any ptsBad)
set_option maxHeartbeats 4000000 in
theorem lim1_c (s : Seg) (nn : Nm) : CallsA Try.prog 160 [.agg s.row] Hp.none nn (Pu (db (ptsBad s)) Hp.none) := by
 obtain ⟨code, h1, h2⟩ := c160_ok
 refine callsA_of (T0_ok _) mixed (N := fun t => (0, t)) Try.func160 h1 h2 r160_ok [] false js_nil js_nil' (by simp [Try.f160]) ?_
 cases a1 : decide ((s.points.length : Int) < 2) <;> simp (maxSteps:=500000) only [↓vp, vv, ↓reduceIte, simprocAttr, c160, r160, Seg.row, a1, ptsBad, Pu]
def ptsOf : List (List D) → Option (List Pt)
 | [] => some []
 | [.v (.int .i64 a), .v (.int .i64 b), .v (.int .i64 c)] :: l => match ptsOf l with
  | some ts => some (⟨a, b, c⟩ :: ts)
  | Option.none => Option.none
 | _ => Option.none
theorem ptsOf_map : ∀ (l : List Pt), ptsOf (l.map Pt.row) = some l
 | [] => rfl
 | t :: l => by
  show ptsOf (t.row :: l.map Pt.row) = _
  rw [Pt.row, ptsOf, ptsOf_map l]
theorem ptsOf_eq : ∀ {l : List (List D)} {ts : List Pt}, ptsOf l = some ts → l = ts.map Pt.row
 | [], ts, h => by rw [ptsOf] at h; cases h; rfl
 | r :: l, ts, h => by
  unfold ptsOf at h
  split at h
  ·rename_i heq; cases heq
  ·rename_i heq
   cases heq
   split at h
   ·rename_i hm; cases h; rw [ptsOf_eq hm]; rfl
   ·cases h
  ·cases h
def segOf1 : List D → Option Seg
 | [.v (.string s), .v (.int .i64 a), .v (.int .i64 b), .v (.int .i64 c), .v (.int .i64 d), .v (.int .i64 e), .sl p] => match ptsOf p with
  | some ps => some ⟨s, a, b, c, d, e, ps⟩
  | Option.none => Option.none
 | _ => Option.none
theorem segOf1_row (s : Seg) : segOf1 s.row = some s := by unfold Seg.row segOf1; simp only [ptsOf_map]
theorem segOf1_eq {r : List D} {s : Seg} (h : segOf1 r = some s) : r = s.row := by
 unfold segOf1 at h
 split at h
 ·split at h
  ·rename_i hm; cases h; rw [ptsOf_eq hm]; rfl
  ·cases h
 ·cases h
def portOf1 : List D → Option Port
 | [.v (.string s), .v (.int .i64 a), .v (.int .i64 b)] => some ⟨s, a, b⟩
 | _ => Option.none
theorem portOf1_row (s : Port) : portOf1 s.row = some s := rfl
theorem portOf1_eq {r : List D} {s : Port} (h : portOf1 r = some s) : r = s.row := by
 unfold portOf1 at h
 split at h
 ·cases h; rfl
 ·cases h
def stnOf1 : List D → Option Stn
 | [.v (.string s), .v (.int .i64 a), .v (.int .i64 b), .v (.int .i64 c), .v (.int .i64 d)] => some ⟨s, a, b, c, d⟩
 | _ => Option.none
theorem stnOf1_row (s : Stn) : stnOf1 s.row = some s := rfl
theorem stnOf1_eq {r : List D} {s : Stn} (h : stnOf1 r = some s) : r = s.row := by
 unfold stnOf1 at h
 split at h
 ·cases h; rfl
 ·cases h
def nmOf1 : List D → Option ByteArray
 | [.v (.string s)] => some s
 | _ => Option.none
theorem nmOf1_row (s : ByteArray) : nmOf1 (nmRow s) = some s := rfl
theorem nmOf1_eq {r : List D} {s : ByteArray} (h : nmOf1 r = some s) : r = nmRow s := by
 unfold nmOf1 at h
 split at h
 ·cases h; rfl
 ·cases h
def lsOf {α : Type} (f : List D → Option α) : List (List D) → Option (List α)
 | [] => some []
 | r :: l => match f r, lsOf f l with
  | some x, some xs => some (x :: xs)
  | _, _ => Option.none
theorem lsOf_map {α : Type} {f : List D → Option α} {g : α → List D} (h : ∀ x, f (g x) = some x) : ∀ (l : List α), lsOf f (l.map g) = some l
 | [] => rfl
 | x :: l => by rw [List.map_cons, lsOf, h x, lsOf_map h l]
theorem lsOf_eq {α : Type} {f : List D → Option α} {g : α → List D} (h : ∀ r x, f r = some x → r = g x) : ∀ {l : List (List D)} {xs : List α}, lsOf f l = some xs → l = xs.map g
 | [], xs, e => by rw [lsOf] at e; cases e; rfl
 | r :: l, xs, e => by
  rw [lsOf] at e
  split at e
  ·rename_i h1 h2
   cases e
   rw [h r _ h1, lsOf_eq h h2]; rfl
  ·cases e
def netOf1 : List D → Option Net
 | [.sl a, .sl b, .sl c, .sl d, .v (.int .i64 v), .v (.int .i64 s)] => match lsOf nmOf1 a, lsOf segOf1 b, lsOf portOf1 c, lsOf stnOf1 d with
  | some x, some y, some z, some u => some ⟨x, y, z, u, v, s⟩
  | _, _, _, _ => Option.none
 | _ => Option.none
theorem netOf1_row (n : Net) : netOf1 (netD n) = some n := by
 unfold netD netOf1
 simp only [lsOf_map nmOf1_row, lsOf_map segOf1_row, lsOf_map portOf1_row, lsOf_map stnOf1_row]
theorem netOf1_x (n : Net) : netOf1 [D.sl (n.nodes.map nmRow), .sl (n.segs.map Seg.row), .sl (n.ports.map Port.row), .sl (n.sts.map Stn.row), di n.vap, di n.set] = some n := netOf1_row n
theorem netOf1_eq {r : List D} {n : Net} (h : netOf1 r = some n) : r = netD n := by
 unfold netOf1 at h
 split at h
 ·split at h
  ·rename_i e1 e2 e3 e4
   cases h
   rw [lsOf_eq (fun r x => nmOf1_eq) e1, lsOf_eq (fun r x => segOf1_eq) e2, lsOf_eq (fun r x => portOf1_eq) e3, lsOf_eq (fun r x => stnOf1_eq) e4]
   rfl
  ·cases h
 ·cases h
def selNet (out : Net → D) : List D → Option (Prop × D)
 | [.agg r] => match netOf1 r with
  | some n => some (NetSz n, out n)
  | Option.none => Option.none
 | _ => Option.none
theorem tc_netf {f : FuncId} {out : Net → D} {T : Tbl} (hf : fnOk Try.prog f = true) (h : ∀ n, NetSz n → ∀ nn, CallsA Try.prog f [n.enc] Hp.none nn (Pu (out n) Hp.none)) (hT : TblOk Try.prog T) : TblOk Try.prog (tc f (rowPu (selNet out)) T) :=
 tc_pu hf (fun args pre d hs hp nn => by
  unfold selNet at hs
  split at hs
  ·split at hs
   ·rename_i n hn
    cases hs
    rw [netOf1_eq hn]
    exact h n hp nn
   ·cases hs
  ·cases hs) hT
def qRow {α : Type} (f : List D → Option α) (q : α → Bool) (d : D) : Bool :=
 match d with
 | .agg r => match f r with
  | some x => q x
  | Option.none => false
 | d => match f [d] with
  | some x => q x
  | Option.none => false
theorem qRow_agg {α : Type} {f : List D → Option α} {q : α → Bool} {r : List D} {x : α} (h : f r = some x) : qRow f q (.agg r) = q x := by unfold qRow; simp only [h]
set_option maxHeartbeats 4000000 in
theorem limits_w (n : Net) (nn : Nm) : CallsA Try.prog 132 [n.enc] Hp.none nn (Pu (db (limB n)) Hp.none) := by
 obtain ⟨code, h1, h2⟩ := c132_ok
 have hT : TblOk Try.prog (tc 159 (rowPu (selQ Try.prog true 7 (fun g l => qRow segOf1 ptsBad) outC)) T0) := by
  refine tc_pu f159_ok (fun args pre d h hp nn => ?_) (T0_ok _)
  unfold selQ at h
  split at h
  ·split at h
   ·rename_i hi
    cases h
    rw [ipsOf_eq hi]
    exact hasF_G _ _ _ _ hp nn
   ·cases h
  ·cases h
 have hq' : ¬ (32 : Int) < n.segs.length → QOk Try.prog true 7 (qRow segOf1 ptsBad) 160 [] (n.segs.map Seg.row) := by
  intro hs
  refine ⟨f160_ok, by simp; omega, fun r hr => ?_⟩
  obtain ⟨x, _, rfl⟩ := List.mem_map.1 hr
  refine ⟨rfl, x.done, fun h => Bool.noConfusion h, fun nn => ?_⟩
  have := lim1_c x nn
  rw [← qRow_agg (q := ptsBad) (segOf1_row x)] at this
  exact this
 have ho : outC (fun r => qRow segOf1 ptsBad (elV true r)) (n.segs.map Seg.row) = db (n.segs.any ptsBad) := by
  unfold outC
  rw [List.any_map]
  congr 3
  funext x
  exact qRow_agg (segOf1_row x)
 refine callsA_of hT mixed (N := fun t => (0, t)) Try.func132 h1 h2 r132_ok [] false js_nil js_nil' (by simp [Try.f132]) ?_
 by_cases a1 : (n.nodes.length : Int) < 1
 ·simp (maxSteps:=500000) only [↓vp, vv, ↓reduceIte, simprocAttr, c132, r132, c132_1, Net.enc, limB, a1, Pu, decide_true, decide_false]
 ·by_cases a2 : (24 : Int) < n.nodes.length
  ·simp (maxSteps:=500000) only [↓vp, vv, ↓reduceIte, simprocAttr, c132, r132, c132_1, Net.enc, limB, a1, a2, Pu, decide_true, decide_false]
  ·by_cases a3 : (32 : Int) < n.segs.length
   ·simp (maxSteps:=500000) only [↓vp, vv, ↓reduceIte, simprocAttr, c132, r132, c132_1, Net.enc, limB, a1, a2, a3, Pu, decide_true, decide_false]
   ·by_cases a4 : (24 : Int) < n.ports.length
    ·simp (maxSteps:=500000) only [↓vp, vv, ↓reduceIte, simprocAttr, c132, r132, c132_1, Net.enc, limB, a1, a2, a3, a4, Pu, decide_true, decide_false]
    ·by_cases a5 : (12 : Int) < n.sts.length
     ·simp (maxSteps:=500000) only [↓vp, vv, ↓reduceIte, simprocAttr, c132, r132, c132_1, Net.enc, limB, a1, a2, a3, a4, a5, Pu, decide_true, decide_false]
     ·have hq := hq' a3
      simp (maxSteps:=500000) only [↓vp, vv, ↓reduceIte, simprocAttr, c132, r132, c132_1, Net.enc, limB, a1, a2, a3, a4, a5, selQ, ipsOf, hq, ho, Pu, decide_true, decide_false]
theorem limits_c (n : Net) (hz : NetSz n) (nn : Nm) : CallsA Try.prog 132 [n.enc] Hp.none nn (Pu (db (limB n)) Hp.none) := limits_w n nn
def eqS (x y : ByteArray) : Bool := x.toList == y.toList
theorem eqS_self (x : ByteArray) : eqS x x = true := by simp [eqS]
def idxA {α : Type} (q : α → Bool) : Int → List α → Int
 | _, [] => -1
 | k, r :: l => if q r = true then k else idxA q (k + 1) l
theorem idxA_lt {α : Type} (q : α → Bool) : ∀ (l : List α) (k : Int) (i : Nat) (h : i < l.length), 0 ≤ k → q l[i] = true → (idxA q k l < k + i ↔ (l.take i).any q = true)
 | r :: l, k, 0, h, hk, hq => by
  simp at hq
  simp [idxA, hq]
 | r :: l, k, i + 1, h, hk, hq => by
  rw [idxA, List.take_succ_cons, List.any_cons]
  cases hr : q r with
  | true => simp; omega
  | false =>
   have := idxA_lt q l (k + 1) i (by simpa using h) (by omega) (by simpa using hq)
   rw [show k + 1 + (i : Int) = k + (i + 1 : Nat) by omega] at this
   simpa using this
theorem idxA_drop {α : Type} (q : α → Bool) (l : List α) (k : Nat) (h : k < l.length) : idxA q k (l.drop k) = if q l[k] = true then (k : Int) else idxA q (k + 1 : Nat) (l.drop (k + 1)) := by
 rw [List.drop_eq_getElem_cons h]
 rfl
set_option maxHeartbeats 4000000 in
theorem index_c (l : List ByteArray) (v : ByteArray) (hl : l.length ≤ 1000000) (nn : Nm) : CallsA Try.prog 162 [.sl (l.map nmRow), ds v] Hp.none nn (Pu (di (idxA (eqS v) 0 l)) Hp.none) := by
 obtain ⟨code, h1, h2⟩ := c162_ok
 refine callsA_of (T0_ok _) mixed (N := fun t => (0, t)) Try.func162 h1 h2 r162_ok [] false js_nil js_nil' (by simp [Try.f162]) ?_
 generalize hb : idxA (eqS v) 0 l = b
 simp (maxSteps:=500000) only [↓vp, vv, ↓reduceIte, simprocAttr, c162]
 refine rng_loop l.length (fun j => ⟨fr [(0, .sl (l.map nmRow)), (1, ds v), (7, di l.length), (8, di j)], Hp.none⟩) (fun j => idxA (eqS v) j (l.drop j) = b) (weak0 (by simp only [↓vp, vv, ↓reduceIte, simprocAttr, coverS]) (by simp only [↓vp, vv, ↓reduceIte, simprocAttr, refsF])) hb (fun j hj he => ?_) (fun he => ?_)
 ·have hj' : (j : Int) < l.length := by omega
  have hn := idx_nn j
  have w1 := idx_next (j := j) (by omega)
  have hg := getD_map nmRow l j hj
  rw [idxA_drop _ _ _ hj] at he
  generalize l[j] = x at hg he
  cases hq : eqS v x with
  | true =>
   have hq' : (v.toList == x.toList) = true := hq
   rw [hq, if_pos rfl] at he
   subst he
   simp (maxSteps:=500000) only [↓vp, vv, ↓reduceIte, simprocAttr, c162, r162, c162_1, c162_2, c162_3, c162_4, hj', hn, Int.toNat_natCast, hg, nmRow, hq', Pu]
  | false =>
   have hq' : (v.toList == x.toList) = false := hq
   rw [hq, if_neg (by simp)] at he
   simp (maxSteps:=500000) only [↓vp, vv, ↓reduceIte, simprocAttr, c162, r162, c162_1, c162_2, c162_3, c162_4, hj', hn, Int.toNat_natCast, hg, nmRow, hq', w1]
   exact rng_next hj (weak0 (by simp only [↓vp, vv, ↓reduceIte, simprocAttr, coverS, nmRow, w1]) (by simp only [↓vp, vv, ↓reduceIte, simprocAttr, refsF])) he
 ·rw [List.drop_of_length_le (Nat.le_refl _)] at he
  have he : (-1 : Int) = b := he
  subst he
  simp (maxSteps:=500000) only [↓vp, vv, ↓reduceIte, simprocAttr, c162, r162, c162_1, c162_2, c162_3, c162_4, Int.lt_irrefl, Pu]
theorem drop_any {α : Type} {p : α → Bool} {l : List α} {j : Nat} {b : Bool} (hj : j < l.length) (he : (l.drop j).any p = b) : (p l[j] = true → b = true) ∧ (p l[j] = false → (l.drop (j + 1)).any p = b) := by
 rw [List.drop_eq_getElem_cons hj, List.any_cons] at he
 exact ⟨fun h => by rw [h] at he; simpa using he.symm, fun h => by rw [h] at he; simpa using he⟩
theorem drop_any_end {α : Type} {p : α → Bool} {l : List α} {n : Nat} {b : Bool} (hn : n = l.length) (he : (l.drop n).any p = b) : b = false := by
 subst hn
 rw [List.drop_of_length_le (Nat.le_refl _)] at he
 exact he.symm
def dupAt {α : Type} (q : α → α → Bool) (l : List α) (i : Nat) : Bool := match l[i]? with
 | some x => (l.take i).any (q x)
 | Option.none => false
def dupB {α : Type} (q : α → α → Bool) (l : List α) : Bool := (List.range l.length).any (dupAt q l)
def nms4 (n : Net) : List (List ByteArray) := [n.nodes, n.segs.map (·.name), n.ports.map (·.name), n.sts.map (·.name)]
def eqN (x y : Stn) : Bool := y.node == x.node
def twB (n : Net) : Bool := if (nms4 n).any (dupB eqS) = true then true else dupB eqN n.sts
def selIdx : List D → Option (Prop × D)
 | [.sl rows, .v (.string v)] => match lsOf nmOf1 rows with
  | some l => some (l.length ≤ 1000000, di (idxA (eqS v) 0 l))
  | Option.none => Option.none
 | _ => Option.none
theorem tw1_c (x s : Stn) (nn : Nm) : CallsA Try.prog 164 [.agg x.row, .ip s.row] Hp.none nn (Pu (db (eqN s x)) Hp.none) := by
 obtain ⟨code, h1, h2⟩ := c164_ok
 refine callsA_of (T0_ok _) mixed (N := fun t => (0, t)) Try.func164 h1 h2 r164_ok [] false js_nil js_nil' (by simp [Try.f164]) ?_
 simp (maxSteps:=500000) only [↓vp, vv, ↓reduceIte, simprocAttr, c164, r164, Stn.row, eqN, Pu]
def qTw (g : FuncId) (l : List (List D)) (d : D) : Bool :=
 match l with
 | [r] => match stnOf1 r with
  | some s => qRow stnOf1 (eqN s) d
  | Option.none => false
 | _ => false
theorem idxOf_map {α : Type} (g : α → List D) (q : List D → Bool) (q' : α → Bool) (h : ∀ x, q (g x) = q' x) : ∀ (l : List α) (k : Int), idxOf q k (l.map g) = idxA q' k l
 | [], _ => rfl
 | x :: l, k => by rw [List.map_cons, idxOf, idxA, h x, idxOf_map g q q' h l]
def TW (P : Program) : Tbl := tc 133 (rowPu (selNet nmsD)) (tc 162 (rowPu selIdx) (tc 163 (rowPu (selQ P true 5 qTw outI)) T0))
theorem TW_ok : TblOk Try.prog (TW Try.prog) := by
 refine tc_netf f133_ok (fun n hz nn => pnames_c n hz.segs hz.ports hz.sts nn) (tc_pu f162_ok (fun args pre d h hp nn => ?_) (tc_pu f163_ok (fun args pre d h hp nn => ?_) (T0_ok _)))
 ·unfold selIdx at h
  split at h
  ·split at h
   ·rename_i hm; cases h; rw [lsOf_eq (fun r x => nmOf1_eq) hm]; exact index_c _ _ hp nn
   ·cases h
  ·cases h
 ·unfold selQ at h
  split at h
  ·split at h
   ·rename_i hi
    cases h
    rw [ipsOf_eq hi]
    exact idxF_N _ _ _ _ hp nn
   ·cases h
  ·cases h
theorem weak1 {F : Fr} {H : Hp} {l : List (Nat × D)} {i : Nm} {e : En} (h1 : coverS F H [] l) (h2 : refsF [i] l = true) (hH : H i = some e) (hc : ClosedH H [i] [i]) : Weak [] ⟨F, H⟩ ⟨fr l, Hp.none.put i e⟩ :=
 weak_eq [] [i] l h1 h2 hc (by simp) (by simp only [Hp.kills, Hp.restr, hH])
def netH (n : Net) : Hp := Hp.none.put (0, 1) ⟨0, 6, [netD n]⟩
theorem getD_any {α : Type} (g : α → D) (l : List α) (k : Nat) (h : k < l.length) : (l.map g).getD k .any = g l[k] := by
 rw [List.getD_eq_getElem?_getD, List.getElem?_map, List.getElem?_eq_getElem h]; rfl
theorem nmsD_map (n : Net) : nmsD n = .agg ((nms4 n).map fun l => .sl (l.map nmRow)) := rfl
theorem nms4_len (n : Net) : (nms4 n).length = 4 := rfl
theorem nms4_small {n : Net} (hz : NetSz n) : ∀ l ∈ nms4 n, l.length ≤ 1000000 := by
 intro l hl
 simp [nms4] at hl
 rcases hl with rfl | rfl | rfl | rfl
 ·exact hz.nodes
 ·simpa using hz.segs
 ·simpa using hz.ports
 ·simpa using hz.sts
theorem dup_at {α : Type} {q : α → α → Bool} {l : List α} {i : Nat} (h : i < l.length) : dupAt q l i = (l.take i).any (q l[i]) := by
 unfold dupAt
 rw [List.getElem?_eq_getElem h]
theorem range_at {n j : Nat} (h : j < (List.range n).length) : (List.range n)[j] = j := by simp
set_option maxHeartbeats 8000000 in
theorem twice_c (n : Net) (hz : NetSz n) (nn : Nm) : CallsA Try.prog 136 [n.enc] Hp.none nn (Pu (db (twB n)) Hp.none) := by
 obtain ⟨code, h1, h2⟩ := c136_ok
 refine callsA_of TW_ok mixed (N := fun t => (0, t)) Try.func136 h1 h2 r136_ok [] false js_nil js_nil' (by simp [Try.f136]) ?_
 have hn1 := netOf1_x n
 generalize hb : (nms4 n).any (dupB eqS) = b
 have htw : twB n = if b = true then true else dupB eqN n.sts := by unfold twB; rw [hb]
 simp (maxSteps:=500000) only [↓vp, vv, ↓reduceIte, simprocAttr, c136, TW, selNet, Net.enc, hn1, hz]
 refine rng_loop 4 (fun j => ⟨fr [(1, .ptr (0, 1) 0 0 0), (10, nmsD n), (11, di j)], netH n⟩) (fun j => ((nms4 n).drop j).any (dupB eqS) = b) (weak1 (by simp only [↓vp, vv, ↓reduceIte, simprocAttr, coverS]) (by simp only [↓vp, vv, ↓reduceIte, simprocAttr, refsF, nmsD]) (by simp only [↓vp, vv, ↓reduceIte, simprocAttr, netD]) (by simp only [↓vp, vv, ↓reduceIte, simprocAttr, ])) hb (fun j hj he => ?_) (fun he => ?_)
 ·have hj' : (j : Int) < 4 := by omega
  have hn := idx_nn j
  have w1 := idx_next (j := j) (by omega)
  have hjl : j < (nms4 n).length := by rw [nms4_len]; exact hj
  obtain ⟨hf, ht⟩ := drop_any hjl he
  have hg := getD_any (fun l => D.sl (List.map nmRow l)) (nms4 n) j hjl
  have hl := nms4_small hz _ (List.getElem_mem hjl)
  generalize (nms4 n)[j] = l at hf ht hg hl
  have hcl : 1 * j + 1 ≤ ((nms4 n).map fun l => D.sl (l.map nmRow)).length := by rw [List.length_map, nms4_len]; omega
  have hcl2 : j * 1 + 1 ≤ (nms4 n).length := by rw [nms4_len]; omega
  generalize hb2 : dupB eqS l = b2 at hf ht
  simp (maxSteps:=500000) only [↓vp, vv, ↓reduceIte, simprocAttr, c136_6, c136_5, netH, nmsD_map, hj', hn, Int.toNat_natCast, hcl, hcl2, hg, Nat.mul_one]
  refine ⟨by omega, ?_⟩
  refine rng_loop l.length (fun i => ⟨fr [(1, .ptr (0, 1) 0 0 0), (10, nmsD n), (11, di j), (4, .sl (l.map nmRow)), (14, .sl (l.map nmRow)), (15, di l.length), (16, di i)], netH n⟩) (fun i => ((List.range l.length).drop i).any (dupAt eqS l) = b2) (weak1 (by simp only [↓vp, vv, ↓reduceIte, simprocAttr, coverS, nmsD_map]) (by simp only [↓vp, vv, ↓reduceIte, simprocAttr, refsF, nmsD]) (by simp only [↓vp, vv, ↓reduceIte, simprocAttr, netD]) (by simp only [↓vp, vv, ↓reduceIte, simprocAttr, netD])) hb2 (fun i hi he2 => ?_) (fun he2 => ?_)
  ·have hi' : (i : Int) < l.length := by omega
   have hin := idx_nn i
   have w2 := idx_next (j := i) (by omega)
   have hil : i < (List.range l.length).length := by simpa using hi
   obtain ⟨hf2, ht2⟩ := drop_any hil he2
   rw [range_at, dup_at hi] at hf2 ht2
   have hg2 := getD_map nmRow l i hi
   have hix := idxA_lt (eqS l[i]) l 0 i hi (Int.le_refl _) (eqS_self _)
   rw [Int.zero_add] at hix
   have hlo : lsOf nmOf1 (l.map nmRow) = some l := lsOf_map nmOf1_row l
   generalize l[i] = x at hf2 ht2 hg2 hix
   cases hd : (l.take i).any (eqS x) with
   | true =>
    have e1 : b2 = true := hf2 hd
    have e2 : b = true := hf e1
    have hix' := hix.2 hd
    have htw' : twB n = true := by rw [htw, e2]; rfl
    simp (maxSteps:=500000) only [↓vp, vv, ↓reduceIte, simprocAttr, c136, r136, c136_1, c136_10, c136_11, c136_12, c136_2, c136_3, c136_4, c136_5, c136_6, c136_7, c136_8, c136_9, TW, selIdx, netH, netD, hi', hin, Int.toNat_natCast, hg2, nmRow, hlo, hl, hix', htw', Pu, decide_true, decide_false]
   | false =>
    have hix' : ¬ idxA (eqS x) 0 l < (i : Int) := fun h => by rw [hix.1 h] at hd; cases hd
    simp (maxSteps:=500000) only [↓vp, vv, ↓reduceIte, simprocAttr, c136, r136, c136_1, c136_10, c136_11, c136_12, c136_2, c136_3, c136_4, c136_5, c136_6, c136_7, c136_8, c136_9, TW, selIdx, netH, netD, hi', hin, Int.toNat_natCast, hg2, nmRow, hlo, hl, hix', w2, decide_true, decide_false]
    exact rng_next hi (weak1 (by simp only [↓vp, vv, ↓reduceIte, simprocAttr, coverS, nmsD, nms4, w2]) (by simp only [↓vp, vv, ↓reduceIte, simprocAttr, refsF, nmsD, nms4]) (by simp only [↓vp, vv, ↓reduceIte, simprocAttr, netD]) (by simp only [↓vp, vv, ↓reduceIte, simprocAttr, netD])) (ht2 hd)
  ·have e1 : b2 = false := drop_any_end (by simp) he2
   simp (maxSteps:=500000) only [↓vp, vv, ↓reduceIte, simprocAttr, c136, r136, c136_1, c136_10, c136_11, c136_12, c136_2, c136_3, c136_4, c136_5, c136_6, c136_7, c136_8, c136_9, netH, netD, Int.lt_irrefl, w1, decide_true, decide_false]
   exact rng_next hj (weak1 (by simp only [↓vp, vv, ↓reduceIte, simprocAttr, coverS, nmsD, nms4, w1]) (by simp only [↓vp, vv, ↓reduceIte, simprocAttr, refsF, nmsD, nms4]) (by simp only [↓vp, vv, ↓reduceIte, simprocAttr, netD]) (by simp only [↓vp, vv, ↓reduceIte, simprocAttr, netD])) (ht e1)
 ·have e1 : b = false := drop_any_end (nms4_len n).symm he
  rw [e1] at htw
  simp only [Bool.false_eq_true, if_false] at htw
  rw [htw]
  generalize hb3 : dupB eqN n.sts = b3
  simp (maxSteps:=500000) only [↓vp, vv, ↓reduceIte, simprocAttr, c136_6, c136_12, netH, netD, Int.lt_irrefl]
  refine rng_loop n.sts.length (fun i => ⟨fr [(1, .ptr (0, 1) 0 0 0), (29, .sl (n.sts.map Stn.row)), (30, di n.sts.length), (31, di i)], netH n⟩) (fun i => ((List.range n.sts.length).drop i).any (dupAt eqN n.sts) = b3) (weak1 (by simp only [↓vp, vv, ↓reduceIte, simprocAttr, coverS]) (by simp only [↓vp, vv, ↓reduceIte, simprocAttr, refsF]) (by simp only [↓vp, vv, ↓reduceIte, simprocAttr, netD]) (by simp only [↓vp, vv, ↓reduceIte, simprocAttr, ])) hb3 (fun i hi he2 => ?_) (fun he2 => ?_)
  ·have hzs := hz.sts
   have hi' : (i : Int) < n.sts.length := by omega
   have hin := idx_nn i
   have w2 := idx_next (j := i) (by omega)
   have hil : i < (List.range n.sts.length).length := by simpa using hi
   obtain ⟨hf2, ht2⟩ := drop_any hil he2
   rw [range_at, dup_at hi] at hf2 ht2
   have hg2 := getD_map Stn.row n.sts i hi
   have hix := idxA_lt (eqN n.sts[i]) n.sts 0 i hi (Int.le_refl _) (by simp [eqN])
   rw [Int.zero_add] at hix
   generalize n.sts[i] = x at hf2 ht2 hg2 hix
   have hq : QOk Try.prog true 5 (qTw 164 [x.row]) 164 [x.row] (n.sts.map Stn.row) := by
    refine ⟨f164_ok, by simp; omega, fun r hr => ?_⟩
    obtain ⟨y, _, rfl⟩ := List.mem_map.1 hr
    exact ⟨rfl, y.done, fun h => Bool.noConfusion h, fun nn => tw1_c y x nn⟩
   have ho : outI (fun r => qTw 164 [x.row] (elV true r)) (n.sts.map Stn.row) = di (idxA (eqN x) 0 n.sts) := by
    unfold outI
    rw [idxOf_map Stn.row _ (eqN x) (fun y => rfl)]
   simp (maxSteps:=500000) only [↓vp, vv, ↓reduceIte, simprocAttr, c136_10, c136_9, netH, netD, hi', hin, Int.toNat_natCast, hg2, Stn.row]
   refine vc_wk ((weak_ip 8 (0, 8) 0 5 x.row (by simp only [↓vp, vv, ↓reduceIte, simprocAttr, ]) (by simp only [↓vp, vv, ↓reduceIte, simprocAttr, Stn.row]) (by simp only [↓vp, vv, ↓reduceIte, simprocAttr, Stn.row]) (by simp)).trans (weak1 (l := [(1, .ptr (0, 1) 0 0 0), (7, di i), (8, .ip x.row), (29, .sl (n.sts.map Stn.row)), (30, di n.sts.length), (31, di i)]) (i := (0, 1)) (e := ⟨0, 6, [netD n]⟩) (by simp only [↓vp, vv, ↓reduceIte, simprocAttr, coverS]) (by simp only [↓vp, vv, ↓reduceIte, simprocAttr, refsF]) (by simp only [↓vp, vv, ↓reduceIte, simprocAttr, netD]) (by simp only [↓vp, vv, ↓reduceIte, simprocAttr, ]))) ?_
   cases hd : (n.sts.take i).any (eqN x) with
   | true =>
    have e1 : b3 = true := hf2 hd
    have hix' := hix.2 hd
    simp (maxSteps:=500000) only [↓vp, vv, ↓reduceIte, simprocAttr, c136_7, r136, TW, netD, selQ, ipsOf, hq, ho, hix', e1, Pu, decide_true, decide_false]
   | false =>
    have hix' : ¬ idxA (eqN x) 0 n.sts < (i : Int) := fun h => by rw [hix.1 h] at hd; cases hd
    simp (maxSteps:=500000) only [↓vp, vv, ↓reduceIte, simprocAttr, c136_7, c136_8, TW, netD, selQ, ipsOf, hq, ho, hix', w2, decide_true, decide_false]
    exact rng_next hi (weak1 (by simp only [↓vp, vv, ↓reduceIte, simprocAttr, coverS, w2]) (by simp only [↓vp, vv, ↓reduceIte, simprocAttr, refsF]) (by simp only [↓vp, vv, ↓reduceIte, simprocAttr, netD]) (by simp only [↓vp, vv, ↓reduceIte, simprocAttr, netD])) (ht2 hd)
  ·have e1 : b3 = false := drop_any_end (by simp) he2
   simp (maxSteps:=500000) only [↓vp, vv, ↓reduceIte, simprocAttr, c136_10, c136_11, r136, netH, netD, Int.lt_irrefl, e1, Pu, decide_true, decide_false]
end Go.Proofs.Ytadjhfjiimgddaa
