
/- Networks out of a source: nodes and segments. -/
import Derived.Test.YtkjibmfggeibjaaGen4
namespace Go.Proofs.Ytkjibmfggeibjaa
open Go
set_option linter.unusedVariables false
set_option linter.unusedSimpArgs false
set_option maxRecDepth 100000

def NetI3 (i : Nm) (L : List (List D)) (g1 : Nat) (nodes : List ByteArray) (vap set : Int) : Nat → St → Prop := fun k s => ∃ at' g2 segs, SrcOk L at' ∧ AllI (SegAt (nodes.length - 1)) segs ∧ nodes.length - 1 ≤ segs.length ∧ segs.length + k ≤ nodes.length + 2 ∧ s = ⟨fr (NetFr i [(5, di (nodes.length - 1)), (7, di k)]), NetHp i L at' g1 nodes g2 segs 0 [] 0 [] vap set⟩
set_option maxHeartbeats 8000000 in
theorem Net_3 (i : Nm) (L : List (List D)) (at' : Int) (ho : SrcOk L at') (g1 : Nat) (nodes : List ByteArray) (hn : AllI NodeOk nodes) (hn2 : 2 ≤ nodes.length ∧ nodes.length ≤ 6) (vap set : Int) (hv : -100000 ≤ vap ∧ vap ≤ 50000) (hset : 0 ≤ set ∧ set ≤ 100) (g2 : Nat) (segs : List Seg) (hs : AllI (SegAt (nodes.length - 1)) segs) (hs2 : segs.length = nodes.length - 1) :
    vc T3 (fun t => (i.1 + 1, t)) [i] c19_13 (finQ r19 [i] false (SrcR i L NetOk Net.enc)) ⟨fr (NetFr i [(5, di (nodes.length - 1))]), NetHp i L at' g1 nodes g2 segs 0 [] 0 [] vap set⟩ := by
  simp (config := { maxSteps := 500000 }) only [↓vp, vv, implies_true, forall_const, undef, InI, ↓reduceIte, simprocAttr, c19_13, T3, T2, T1, selI, selPick, selRange, selName, selSeg, ho, NetHp, NetFr]
  intro a1 c hc
  unfold NPost at hc
  rw [vc_loop]
  refine ⟨NetI3 i L g1 nodes vap set, ⟨c.toNat, _, (weak_eq [] [i, (i.1 + 1, 2), (i.1 + 1, 3), (i.1 + 1, 1001), (i.1 + 1, 1002), (i.1 + 1, 1003), (i.1 + 1, 1004)] (NetFr i [(5, di (nodes.length - 1)), (7, di c)]) (by simp (config := { maxSteps := 500000 }) only [↓vp, vv, implies_true, forall_const, undef, InI, ↓reduceIte, simprocAttr, coverS, NetFr, NetHp, Seg.row, nmRow, Port.row, Stn.row]) (by simp (config := { maxSteps := 500000 }) only [↓vp, vv, implies_true, forall_const, undef, InI, ↓reduceIte, simprocAttr, refsF, NetFr, NetHp, Seg.row, nmRow, Port.row, Stn.row]) (by simp (config := { maxSteps := 500000 }) only [↓vp, vv, implies_true, forall_const, undef, InI, ↓reduceIte, simprocAttr, NetFr, NetHp, Seg.row, nmRow, Port.row, Stn.row]) (by simp) (by simp (config := { maxSteps := 500000 }) only [↓vp, vv, implies_true, forall_const, undef, InI, ↓reduceIte, simprocAttr, NetFr, NetHp, Seg.row, nmRow, Port.row, Stn.row]; try rfl)), ⟨a1.1, g2, segs, a1.2, hs, by omega, by omega, by rw [show ((c.toNat : Nat) : Int) = c by omega]; rfl⟩⟩, ?_⟩
  rintro m s ⟨at1, g2, segs, o1, hs, hs1, hs2, rfl⟩
  by_cases h1 : (0 : Int) < m
  · have w1 : IntKind.i64.wrap ((m : Int) - 1) = ((m - 1 : Nat) : Int) := by rw [wrap_i (by omega)]; omega
    simp (config := { maxSteps := 500000 }) only [↓vp, vv, implies_true, forall_const, undef, InI, ↓reduceIte, simprocAttr, c19, r19, c19_1, c19_10, c19_11, c19_12, c19_13, c19_14, c19_2, c19_3, c19_4, c19_5, c19_6, c19_7, c19_8, c19_9, T3, T2, T1, selI, selPick, selRange, selName, selSeg, NetHp, NetFr, Seg.enc, Seg.row, nmRow, Port.row, Stn.row, sz1, o1, h1]
    refine ⟨by omega, fun a1 x hx => ?_⟩
    unfold NPost at hx
    have w2 : IntKind.i64.wrap (x + 1) = x + 1 := wrap_i (by omega)
    simp only [w2]
    refine ⟨⟨by omega, by omega, by omega⟩, fun a2 y hy => ⟨by omega, fun a3 sg hsg => ?_⟩⟩
    unfold RPost at hy
    refine ⟨⟨by omega, by omega⟩, m - 1, _, by omega, (weak_eq [] [i, (i.1 + 1, 2), (i.1 + 1, 3), (i.1 + 1, 1001), (i.1 + 1, 1002), (i.1 + 1, 1003), (i.1 + 1, 1004)] (NetFr i [(5, di (nodes.length - 1)), (7, di ((m - 1 : Nat) : Int))]) (by simp (config := { maxSteps := 500000 }) only [↓vp, vv, implies_true, forall_const, undef, InI, ↓reduceIte, simprocAttr, coverS, NetFr, NetHp, Seg.row, nmRow, Port.row, Stn.row, w1]) (by simp (config := { maxSteps := 500000 }) only [↓vp, vv, implies_true, forall_const, undef, InI, ↓reduceIte, simprocAttr, refsF, NetFr, NetHp, Seg.row, nmRow, Port.row, Stn.row, w1]) (by simp (config := { maxSteps := 500000 }) only [↓vp, vv, implies_true, forall_const, undef, InI, ↓reduceIte, simprocAttr, NetFr, NetHp, Seg.row, nmRow, Port.row, Stn.row, w1]) (by simp) (by simp (config := { maxSteps := 500000 }) only [↓vp, vv, implies_true, forall_const, undef, InI, ↓reduceIte, simprocAttr, NetFr, NetHp, Seg.row, nmRow, Port.row, Stn.row, w1]; try rfl)), ⟨a3.1, g2 + 1, segs ++ [sg], a3.2, hs.snoc ⟨x, y, by omega, by omega, by omega, hsg, fun h => by omega⟩, by simp; omega, by simp; omega, ?_⟩⟩
    simp [NetHp, NetFr, Seg.row, sE]
  · simp (config := { maxSteps := 500000 }) only [↓vp, vv, implies_true, forall_const, undef, InI, ↓reduceIte, simprocAttr, c19, r19, c19_1, c19_10, c19_11, c19_12, c19_13, c19_14, c19_2, c19_3, c19_4, c19_5, c19_6, c19_7, c19_8, c19_9, T3, T2, T1, selI, selPick, selRange, selName, selSeg, NetHp, NetFr, Seg.enc, Seg.row, nmRow, Port.row, Stn.row, sz1, o1, h1]
    refine vc_wk (weak_eq [] [i, (i.1 + 1, 2), (i.1 + 1, 3), (i.1 + 1, 1001), (i.1 + 1, 1002), (i.1 + 1, 1003), (i.1 + 1, 1004)] (NetFr i [(5, di (nodes.length - 1))]) (by simp (config := { maxSteps := 500000 }) only [↓vp, vv, implies_true, forall_const, undef, InI, ↓reduceIte, simprocAttr, coverS, NetFr, NetHp, Seg.row, nmRow, Port.row, Stn.row]) (by simp (config := { maxSteps := 500000 }) only [↓vp, vv, implies_true, forall_const, undef, InI, ↓reduceIte, simprocAttr, refsF, NetFr, NetHp, Seg.row, nmRow, Port.row, Stn.row]) (by simp (config := { maxSteps := 500000 }) only [↓vp, vv, implies_true, forall_const, undef, InI, ↓reduceIte, simprocAttr, NetFr, NetHp, Seg.row, nmRow, Port.row, Stn.row]) (by simp) (by simp (config := { maxSteps := 500000 }) only [↓vp, vv, implies_true, forall_const, undef, InI, ↓reduceIte, simprocAttr, NetFr, NetHp, Seg.row, nmRow, Port.row, Stn.row]; try rfl)) ?_
    exact Net_4 i L at1 o1 g1 nodes g2 segs vap set hn hn2 hs (by omega) hv hset
def NetI2 (i : Nm) (L : List (List D)) (g1 : Nat) (nodes : List ByteArray) (vap set : Int) : Nat → St → Prop := fun k s => ∃ at' g2 segs, SrcOk L at' ∧ AllI (SegAt (nodes.length - 1)) segs ∧ segs.length + k = nodes.length - 1 ∧ s = ⟨fr (NetFr i [(5, di (nodes.length - 1)), (6, di segs.length)]), NetHp i L at' g1 nodes g2 segs 0 [] 0 [] vap set⟩
set_option maxHeartbeats 8000000 in
theorem Net_2 (i : Nm) (L : List (List D)) (at' : Int) (ho : SrcOk L at') (g1 : Nat) (nodes : List ByteArray) (hn : AllI NodeOk nodes) (hn2 : 2 ≤ nodes.length ∧ nodes.length ≤ 6) (vap set : Int) (hv : -100000 ≤ vap ∧ vap ≤ 50000) (hset : 0 ≤ set ∧ set ≤ 100) :
    vc T3 (fun t => (i.1 + 1, t)) [i] c19_14 (finQ r19 [i] false (SrcR i L NetOk Net.enc)) ⟨fr (NetFr i []), NetHp i L at' g1 nodes 0 [] 0 [] 0 [] vap set⟩ := by
  have w0 : IntKind.i64.wrap ((nodes.length : Int) - 1) = nodes.length - 1 := wrap_i (by omega)
  simp (config := { maxSteps := 500000 }) only [↓vp, vv, implies_true, forall_const, undef, InI, ↓reduceIte, simprocAttr, c19_14, T3, T2, T1, selI, selPick, selRange, selName, selSeg, ho, NetHp, NetFr, w0]
  rw [vc_loop]
  refine ⟨NetI2 i L g1 nodes vap set, ⟨nodes.length - 1, _, (weak_eq [] [i, (i.1 + 1, 2), (i.1 + 1, 3), (i.1 + 1, 1001), (i.1 + 1, 1002), (i.1 + 1, 1003), (i.1 + 1, 1004)] (NetFr i [(5, di (nodes.length - 1)), (6, di 0)]) (by simp (config := { maxSteps := 500000 }) only [↓vp, vv, implies_true, forall_const, undef, InI, ↓reduceIte, simprocAttr, coverS, NetFr, NetHp, Seg.row, nmRow, Port.row, Stn.row]) (by simp (config := { maxSteps := 500000 }) only [↓vp, vv, implies_true, forall_const, undef, InI, ↓reduceIte, simprocAttr, refsF, NetFr, NetHp, Seg.row, nmRow, Port.row, Stn.row]) (by simp (config := { maxSteps := 500000 }) only [↓vp, vv, implies_true, forall_const, undef, InI, ↓reduceIte, simprocAttr, NetFr, NetHp, Seg.row, nmRow, Port.row, Stn.row]) (by simp) (by simp (config := { maxSteps := 500000 }) only [↓vp, vv, implies_true, forall_const, undef, InI, ↓reduceIte, simprocAttr, NetFr, NetHp, Seg.row, nmRow, Port.row, Stn.row]; try rfl)), ⟨at', 0, [], ho, AllI.nil _, by simp, rfl⟩⟩, ?_⟩
  rintro m s ⟨at1, g2, segs, o1, hs, hs2, rfl⟩
  by_cases h1 : (segs.length : Int) < (nodes.length : Int) - 1
  · have w1 : IntKind.i64.wrap ((segs.length : Int) + 1) = segs.length + 1 := wrap_i (by omega)
    simp (config := { maxSteps := 500000 }) only [↓vp, vv, implies_true, forall_const, undef, InI, ↓reduceIte, simprocAttr, c19, r19, c19_1, c19_10, c19_11, c19_12, c19_13, c19_14, c19_2, c19_3, c19_4, c19_5, c19_6, c19_7, c19_8, c19_9, T3, T2, T1, selI, selPick, selRange, selName, selSeg, NetHp, NetFr, Seg.enc, Seg.row, nmRow, Port.row, Stn.row, sz1, o1, h1, w1]
    refine ⟨by omega, fun a3 sg hsg => ?_⟩
    refine ⟨⟨by omega, by omega⟩, m - 1, _, by omega, (weak_eq [] [i, (i.1 + 1, 2), (i.1 + 1, 3), (i.1 + 1, 1001), (i.1 + 1, 1002), (i.1 + 1, 1003), (i.1 + 1, 1004)] (NetFr i [(5, di (nodes.length - 1)), (6, di ((segs.length : Int) + 1))]) (by simp (config := { maxSteps := 500000 }) only [↓vp, vv, implies_true, forall_const, undef, InI, ↓reduceIte, simprocAttr, coverS, NetFr, NetHp, Seg.row, nmRow, Port.row, Stn.row, w1]) (by simp (config := { maxSteps := 500000 }) only [↓vp, vv, implies_true, forall_const, undef, InI, ↓reduceIte, simprocAttr, refsF, NetFr, NetHp, Seg.row, nmRow, Port.row, Stn.row, w1]) (by simp (config := { maxSteps := 500000 }) only [↓vp, vv, implies_true, forall_const, undef, InI, ↓reduceIte, simprocAttr, NetFr, NetHp, Seg.row, nmRow, Port.row, Stn.row, w1]) (by simp) (by simp (config := { maxSteps := 500000 }) only [↓vp, vv, implies_true, forall_const, undef, InI, ↓reduceIte, simprocAttr, NetFr, NetHp, Seg.row, nmRow, Port.row, Stn.row, w1]; try rfl)), ⟨a3.1, g2 + 1, segs ++ [sg], a3.2, hs.snoc ⟨_, _, by omega, by omega, by omega, hsg, fun h => ⟨rfl, rfl⟩⟩, by simp; omega, ?_⟩⟩
    simp [NetHp, NetFr, Seg.row, sE]
  · simp (config := { maxSteps := 500000 }) only [↓vp, vv, implies_true, forall_const, undef, InI, ↓reduceIte, simprocAttr, c19, r19, c19_1, c19_10, c19_11, c19_12, c19_13, c19_14, c19_2, c19_3, c19_4, c19_5, c19_6, c19_7, c19_8, c19_9, T3, T2, T1, selI, selPick, selRange, selName, selSeg, NetHp, NetFr, Seg.enc, Seg.row, nmRow, Port.row, Stn.row, sz1, o1, h1]
    refine vc_wk (weak_eq [] [i, (i.1 + 1, 2), (i.1 + 1, 3), (i.1 + 1, 1001), (i.1 + 1, 1002), (i.1 + 1, 1003), (i.1 + 1, 1004)] (NetFr i [(5, di (nodes.length - 1))]) (by simp (config := { maxSteps := 500000 }) only [↓vp, vv, implies_true, forall_const, undef, InI, ↓reduceIte, simprocAttr, coverS, NetFr, NetHp, Seg.row, nmRow, Port.row, Stn.row]) (by simp (config := { maxSteps := 500000 }) only [↓vp, vv, implies_true, forall_const, undef, InI, ↓reduceIte, simprocAttr, refsF, NetFr, NetHp, Seg.row, nmRow, Port.row, Stn.row]) (by simp (config := { maxSteps := 500000 }) only [↓vp, vv, implies_true, forall_const, undef, InI, ↓reduceIte, simprocAttr, NetFr, NetHp, Seg.row, nmRow, Port.row, Stn.row]) (by simp) (by simp (config := { maxSteps := 500000 }) only [↓vp, vv, implies_true, forall_const, undef, InI, ↓reduceIte, simprocAttr, NetFr, NetHp, Seg.row, nmRow, Port.row, Stn.row]; try rfl)) ?_
    exact Net_3 i L at1 o1 g1 nodes hn hn2 vap set hv hset g2 segs hs (by omega)
def NetI1 (i : Nm) (L : List (List D)) (vap set : Int) (c : Nat) : Nat → St → Prop := fun k s => ∃ at' g1 nodes, SrcOk L at' ∧ AllI NodeOk nodes ∧ nodes.length + k = c ∧ s = ⟨fr (NetFr i [(4, di k)]), NetHp i L at' g1 nodes 0 [] 0 [] 0 [] vap set⟩
theorem net_own (J : List Nm) (i : Nm) (L : List (List D)) (at' vap set : Int) (F : Fr) : Weak J ⟨F, ((Hp.none.put (i.1 + 1, 3) ⟨0, 6, [[.mt, .mt, .mt, .mt, di vap, di set]]⟩).put (i.1 + 1, 2) ⟨0, 6, [[.mt, .mt, .mt, .mt, di 0, di 0]]⟩).put i (sE L at')⟩ ⟨F, NetHp i L at' 0 [] 0 [] 0 [] 0 [] vap set⟩ := by
  refine (weak_ownC (i.1 + 1, 3) 0 6 [] [.mt, .mt, .mt, di vap, di set] (i.1 + 1, 1001) 1 (by simp (config := { maxSteps := 500000 }) only [↓vp, vv, implies_true, forall_const, undef, InI, ↓reduceIte, simprocAttr, ]) (by simp (config := { maxSteps := 500000 }) only [↓vp, vv, implies_true, forall_const, undef, InI, ↓reduceIte, simprocAttr, ])).trans ?_
  refine (weak_ownC (i.1 + 1, 3) 0 6 [.own (i.1 + 1, 1001) 0 0 0] [.mt, .mt, di vap, di set] (i.1 + 1, 1002) 7 (by simp (config := { maxSteps := 500000 }) only [↓vp, vv, implies_true, forall_const, undef, InI, ↓reduceIte, simprocAttr, ]) (by simp (config := { maxSteps := 500000 }) only [↓vp, vv, implies_true, forall_const, undef, InI, ↓reduceIte, simprocAttr, ])).trans ?_
  refine (weak_ownC (i.1 + 1, 3) 0 6 [.own (i.1 + 1, 1001) 0 0 0, .own (i.1 + 1, 1002) 0 0 0] [.mt, di vap, di set] (i.1 + 1, 1003) 3 (by simp (config := { maxSteps := 500000 }) only [↓vp, vv, implies_true, forall_const, undef, InI, ↓reduceIte, simprocAttr, ]) (by simp (config := { maxSteps := 500000 }) only [↓vp, vv, implies_true, forall_const, undef, InI, ↓reduceIte, simprocAttr, ])).trans ?_
  refine (weak_ownC (i.1 + 1, 3) 0 6 [.own (i.1 + 1, 1001) 0 0 0, .own (i.1 + 1, 1002) 0 0 0, .own (i.1 + 1, 1003) 0 0 0] [di vap, di set] (i.1 + 1, 1004) 5 (by simp (config := { maxSteps := 500000 }) only [↓vp, vv, implies_true, forall_const, undef, InI, ↓reduceIte, simprocAttr, ]) (by simp (config := { maxSteps := 500000 }) only [↓vp, vv, implies_true, forall_const, undef, InI, ↓reduceIte, simprocAttr, ])).trans ?_
  refine (Weak.refl _ _).trans (Eq.mp ?_ (Weak.refl J ⟨F, NetHp i L at' 0 [] 0 [] 0 [] 0 [] vap set⟩))
  congr 2
  funext j
  simp only [NetHp, hput_at, hno_at, List.map_nil, List.length_nil, List.nil_append, List.cons_append]
  by_cases h : j = i
  · subst h; simp only [nm1, if_false, if_true]
  · simp only [h, if_false]
    by_cases h3 : j = (i.1 + 1, 3)
    · subst h3; simp
    · simp only [h3, if_false]
      by_cases h2 : j = (i.1 + 1, 2)
      · subst h2; simp
      · simp only [h2, if_false]
        by_cases k1 : j = (i.1 + 1, 1001)
        · subst k1; simp
        · simp only [k1, if_false]
          by_cases k2 : j = (i.1 + 1, 1002)
          · subst k2; simp
          · simp only [k2, if_false]
            by_cases k3 : j = (i.1 + 1, 1003)
            · subst k3; simp
            · simp only [k3, if_false]
set_option maxHeartbeats 8000000 in
theorem Network_c : SrcC Try.prog 19 [] NetOk Net.enc := by
  intro i L at' nn ho
  obtain ⟨code, h1, h2⟩ := c19_ok
  refine callsA_of T3_ok mixed (N := fun t => (i.1 + 1, t)) Try.func19 h1 h2 r19_ok [i] false js_one js_one' (by simp [Try.f19]) ?_
  simp (config := { maxSteps := 500000 }) only [↓vp, vv, implies_true, forall_const, undef, InI, ↓reduceIte, simprocAttr, c19, T3, T2, T1, selI, selPick, selRange, selName, selSeg, ho]
  intro a1 vap hvap a2 set hset a3 c hc
  simp [IsMem] at hvap hset
  unfold RPost at hc
  rw [vc_loop]
  have hI : NetI1 i L vap set c.toNat c.toNat ⟨fr (NetFr i [(4, di c)]), NetHp i L a3.1 0 [] 0 [] 0 [] 0 [] vap set⟩ := ⟨a3.1, 0, [], a3.2, AllI.nil _, by simp, by rw [show ((c.toNat : Nat) : Int) = c by omega]⟩
  refine ⟨NetI1 i L vap set c.toNat, ⟨c.toNat, _, Weak.trans ?_ (net_own [i] i L a3.1 vap set (fr (NetFr i [(4, di c)]))), hI⟩, ?_⟩
  · exact (weak_eq [] [i, (i.1 + 1, 2), (i.1 + 1, 3)] (NetFr i [(4, di c)]) (by simp (config := { maxSteps := 500000 }) only [↓vp, vv, implies_true, forall_const, undef, InI, ↓reduceIte, simprocAttr, coverS, NetFr]) (by simp (config := { maxSteps := 500000 }) only [↓vp, vv, implies_true, forall_const, undef, InI, ↓reduceIte, simprocAttr, refsF, NetFr]) (by simp (config := { maxSteps := 500000 }) only [↓vp, vv, implies_true, forall_const, undef, InI, ↓reduceIte, simprocAttr, NetFr]) (by simp) (by simp (config := { maxSteps := 500000 }) only [↓vp, vv, implies_true, forall_const, undef, InI, ↓reduceIte, simprocAttr, NetFr]; try rfl))
  rintro m s ⟨at1, g1, nodes, o1, hn, hm, rfl⟩
  by_cases h1 : (0 : Int) < m
  · have w1 : IntKind.i64.wrap ((m : Int) - 1) = ((m - 1 : Nat) : Int) := by rw [wrap_i (by omega)]; omega
    simp (config := { maxSteps := 500000 }) only [↓vp, vv, implies_true, forall_const, undef, InI, ↓reduceIte, simprocAttr, c19, r19, c19_1, c19_10, c19_11, c19_12, c19_13, c19_14, c19_2, c19_3, c19_4, c19_5, c19_6, c19_7, c19_8, c19_9, T3, T2, T1, selI, selPick, selRange, selName, selSeg, NetHp, NetFr, Seg.enc, Seg.row, nmRow, Port.row, Stn.row, sz1, o1, h1, w1]
    refine ⟨⟨by omega, by omega⟩, m - 1, _, by omega, (weak_eq [] [i, (i.1 + 1, 2), (i.1 + 1, 3), (i.1 + 1, 1001), (i.1 + 1, 1002), (i.1 + 1, 1003), (i.1 + 1, 1004)] (NetFr i [(4, di ((m - 1 : Nat) : Int))]) (by simp (config := { maxSteps := 500000 }) only [↓vp, vv, implies_true, forall_const, undef, InI, ↓reduceIte, simprocAttr, coverS, NetFr, NetHp, Seg.row, nmRow, Port.row, Stn.row, w1]) (by simp (config := { maxSteps := 500000 }) only [↓vp, vv, implies_true, forall_const, undef, InI, ↓reduceIte, simprocAttr, refsF, NetFr, NetHp, Seg.row, nmRow, Port.row, Stn.row, w1]) (by simp (config := { maxSteps := 500000 }) only [↓vp, vv, implies_true, forall_const, undef, InI, ↓reduceIte, simprocAttr, NetFr, NetHp, Seg.row, nmRow, Port.row, Stn.row, w1]) (by simp) (by simp (config := { maxSteps := 500000 }) only [↓vp, vv, implies_true, forall_const, undef, InI, ↓reduceIte, simprocAttr, NetFr, NetHp, Seg.row, nmRow, Port.row, Stn.row, w1]; try rfl)), ⟨at1, g1 + 1, nodes ++ [nm1B ⟨#[110]⟩ nodes.length], o1, hn.snoc rfl, by simp; omega, ?_⟩⟩
    simp [NetHp, NetFr, nmRow, sE]
  · simp (config := { maxSteps := 500000 }) only [↓vp, vv, implies_true, forall_const, undef, InI, ↓reduceIte, simprocAttr, c19, r19, c19_1, c19_10, c19_11, c19_12, c19_13, c19_14, c19_2, c19_3, c19_4, c19_5, c19_6, c19_7, c19_8, c19_9, T3, T2, T1, selI, selPick, selRange, selName, selSeg, NetHp, NetFr, Seg.enc, Seg.row, nmRow, Port.row, Stn.row, sz1, o1, h1]
    refine vc_wk (weak_eq [] [i, (i.1 + 1, 2), (i.1 + 1, 3), (i.1 + 1, 1001), (i.1 + 1, 1002), (i.1 + 1, 1003), (i.1 + 1, 1004)] (NetFr i []) (by simp (config := { maxSteps := 500000 }) only [↓vp, vv, implies_true, forall_const, undef, InI, ↓reduceIte, simprocAttr, coverS, NetFr, NetHp, Seg.row, nmRow, Port.row, Stn.row]) (by simp (config := { maxSteps := 500000 }) only [↓vp, vv, implies_true, forall_const, undef, InI, ↓reduceIte, simprocAttr, refsF, NetFr, NetHp, Seg.row, nmRow, Port.row, Stn.row]) (by simp (config := { maxSteps := 500000 }) only [↓vp, vv, implies_true, forall_const, undef, InI, ↓reduceIte, simprocAttr, NetFr, NetHp, Seg.row, nmRow, Port.row, Stn.row]) (by simp) (by simp (config := { maxSteps := 500000 }) only [↓vp, vv, implies_true, forall_const, undef, InI, ↓reduceIte, simprocAttr, NetFr, NetHp, Seg.row, nmRow, Port.row, Stn.row]; try rfl)) ?_
    exact Net_2 i L at1 o1 g1 nodes hn (by omega) vap set (by omega) (by omega)
end Go.Proofs.Ytkjibmfggeibjaa
