/- FlowAnswers: Wr LmA. -/
import Derived.Test.YtkjibmfggeibjaaFaG12
import Derived.Test.YtkjibmfggeibjaaFaG7
import Derived.Test.YtkjibmfggeibjaaFaG9
import Derived.Test.YtkjibmfggeibjaaFaG19
import Derived.Test.YtkjibmfggeibjaaFaG15

/- Networks in which one thing was changed. -/
namespace Go.Proofs.Ytkjibmfggeibjaa
open Go
set_option linter.unusedVariables false
set_option linter.unusedSimpArgs false
set_option maxRecDepth 100000

/-- What a network is in which one thing was changed. -/
structure WrOk (n n' : Net) : Prop where
  nodes : n'.nodes.length ≤ 60
  segs : n'.segs.length = n.segs.length
  ports : n'.ports.length = n.ports.length
  sts : n'.sts.length ≤ n.sts.length + 1
  pts : ∀ s ∈ n'.segs, s.points.length ≤ 8
def WrH (i : Nm) (L : List (List D)) (at' : Int) (gn : Nat) (nodes : List ByteArray) (segs : List Seg) (ports : List Port) (gt : Nat) (sts : List Stn) (vap set : Int) (x : Seg) (pl : Nat) : Hp :=
  ((((((((Hp.none.put (i.1 + 1, 37) ⟨1, 3, x.points.map Pt.row⟩).put (i.1 + 1, 22) ⟨gt, 5, sts.map Stn.row⟩).put (i.1 + 1, 17) ⟨1, 3, ports.map Port.row⟩).put (i.1 + 1, 12) ⟨1, 7, segs.map Seg.row⟩).put (i.1 + 1, 7) ⟨gn, 1, nodes.map nmRow⟩).put (i.1 + 1, 6) ⟨0, 7, [[ds x.name, di x.fr, di x.to, di x.cap, di x.resist, di x.wave, .own (i.1 + 1, 37) 1 0 pl]]⟩).put (i.1 + 1, 4) ⟨0, 6, [[.mt, .mt, .mt, .mt, di 0, di 0]]⟩).put (i.1 + 1, 3) ⟨0, 6, [[.own (i.1 + 1, 7) gn 0 nodes.length, .own (i.1 + 1, 12) 1 0 segs.length, .own (i.1 + 1, 17) 1 0 ports.length, .own (i.1 + 1, 22) gt 0 sts.length, di vap, di set]]⟩).put i (sE L at')
def WrF (i : Nm) (k : Int) (l : List (Nat × D)) : List (Nat × D) := (0, .ptr i 0 0 0) :: (3, .ptr (i.1 + 1, 3) 0 0 0) :: (4, .ptr (i.1 + 1, 4) 0 0 0) :: (5, di k) :: (6, .ptr (i.1 + 1, 6) 0 0 0) :: l
def WrG (i : Nm) (L : List (List D)) (at' : Int) (nodes : List ByteArray) (segs : List Seg) (ports : List Port) (sts : List Stn) (vap set : Int) (x : Seg) : Hp :=
  ((((Hp.none.put (i.1 + 1, 12) ⟨1, 7, segs.map Seg.row⟩).put (i.1 + 1, 6) ⟨0, 7, [Seg.row x]⟩).put (i.1 + 1, 4) ⟨0, 6, [[.mt, .mt, .mt, .mt, di 0, di 0]]⟩).put (i.1 + 1, 3) ⟨0, 6, [[.sl (nodes.map nmRow), .own (i.1 + 1, 12) 1 0 segs.length, .sl (ports.map Port.row), .sl (sts.map Stn.row), di vap, di set]]⟩).put i (sE L at')
theorem nm_len (x : ByteArray) : (nmRow x).length = 1 := rfl
theorem seg_len (x : Seg) : (Seg.row x).length = 7 := rfl
theorem port_len (x : Port) : (Port.row x).length = 3 := rfl
theorem stn_len (x : Stn) : (Stn.row x).length = 5 := rfl
theorem pt_len (x : Pt) : (Pt.row x).length = 3 := rfl
theorem rows_le {α : Type} (f : α → List D) (h : ∀ x, rowV (f x) = true) (ks : List Nm) (H : Hp) (l : List α) : (l.map f).map (fun r => r.map (lendK ks H)) = l.map f := by
  rw [List.map_map]
  exact List.map_congr_left fun x _ => (rowV_ok (h x) ks H).2.2
def cutPts (x : Seg) (pl : Nat) : Seg := ⟨x.name, x.fr, x.to, x.cap, x.resist, x.wave, x.points.take pl⟩
set_option maxHeartbeats 16000000 in
theorem wr_end (i : Nm) (L : List (List D)) (at' : Int) (ho : SrcOk L at') (n : Net) (gn : Nat) (nodes : List ByteArray) (segs : List Seg) (ports : List Port) (gt : Nat) (sts : List Stn) (vap set : Int) (x : Seg) (pl : Nat) (hpl : pl ≤ x.points.length) (k : Nat) (hk : k < segs.length)
    (hpost : WrOk n ⟨nodes, segs.set k (cutPts x pl), ports, sts, vap, set⟩) (s : St) (hw : Weak [i] s ⟨fr (WrF i k []), WrH i L at' gn nodes segs ports gt sts vap set x pl⟩) :
    vc T2 (fun t => (i.1 + 1, t)) [i] (.weak c34_4) (finQ r34 [i] false (SrcR i L (WrOk n) Net.enc)) s := by
  have ra := rows_pl nmRow (fun _ => rfl) nodes
  have rb := rows_pl Port.row (fun _ => rfl) ports
  have rc := rows_pl Stn.row (fun _ => rfl) sts
  have rd := rows_pl Pt.row (fun _ => rfl) x.points
  have re := fun ks H => rows_ok Seg.row (fun _ => rfl) ks H segs
  have rf := fun ks H => rows_ok nmRow (fun _ => rfl) ks H nodes
  have rg := fun ks H => rows_ok Port.row (fun _ => rfl) ks H ports
  have rh := fun ks H => rows_ok Stn.row (fun _ => rfl) ks H sts
  have ri := fun ks H => rows_ok Pt.row (fun _ => rfl) ks H x.points
  have rj := fun ks H => rows_le Seg.row (fun _ => rfl) ks H segs
  have t1 : (nodes.map nmRow).take nodes.length = nodes.map nmRow := List.take_of_length_le (by simp)
  have t2 : (ports.map Port.row).take ports.length = ports.map Port.row := List.take_of_length_le (by simp)
  have t3 : (sts.map Stn.row).take sts.length = sts.map Stn.row := List.take_of_length_le (by simp)
  have t4 : (x.points.map Pt.row).take pl = (x.points.take pl).map Pt.row := (List.map_take ..).symm
  refine vc_wk (hw.trans ((weak_eq [] [i, (i.1 + 1, 3), (i.1 + 1, 4), (i.1 + 1, 6), (i.1 + 1, 7), (i.1 + 1, 12), (i.1 + 1, 17), (i.1 + 1, 22), (i.1 + 1, 37)] (WrF i k [])
      (H' := hp [(i, sE L at'), ((i.1 + 1, 3), ⟨0, 6, [[.own (i.1 + 1, 7) gn 0 nodes.length, .own (i.1 + 1, 12) 1 0 segs.length, .own (i.1 + 1, 17) 1 0 ports.length, .own (i.1 + 1, 22) gt 0 sts.length, di vap, di set]]⟩), ((i.1 + 1, 4), ⟨0, 6, [[.mt, .mt, .mt, .mt, di 0, di 0]]⟩), ((i.1 + 1, 6), ⟨0, 7, [[ds x.name, di x.fr, di x.to, di x.cap, di x.resist, di x.wave, .own (i.1 + 1, 37) 1 0 pl]]⟩), ((i.1 + 1, 7), ⟨gn, 1, nodes.map nmRow⟩), ((i.1 + 1, 12), ⟨1, 7, segs.map Seg.row⟩), ((i.1 + 1, 17), ⟨1, 3, ports.map Port.row⟩), ((i.1 + 1, 22), ⟨gt, 5, sts.map Stn.row⟩), ((i.1 + 1, 37), ⟨1, 3, x.points.map Pt.row⟩)])
      (by simp (config := { maxSteps := 500000 }) only [↓vp, vv, implies_true, forall_const, undef, InI, ↓reduceIte, simprocAttr, coverS, WrF]) (by simp (config := { maxSteps := 500000 }) only [↓vp, vv, implies_true, forall_const, undef, InI, ↓reduceIte, simprocAttr, refsF, WrF]) (by simp (config := { maxSteps := 500000 }) only [↓vp, vv, implies_true, forall_const, undef, InI, ↓reduceIte, simprocAttr, WrH, sE, nmRow, Seg.row, Port.row, Stn.row, Pt.row]) (by simp) (by simp (config := { maxSteps := 500000 }) only [↓vp, vv, implies_true, forall_const, undef, InI, ↓reduceIte, simprocAttr, hp_cons, hp_nil, WrH, sE]; try rfl)).trans
      (weak_fz [(i.1 + 1, 7), (i.1 + 1, 17), (i.1 + 1, 22), (i.1 + 1, 37)] [i, (i.1 + 1, 3), (i.1 + 1, 4), (i.1 + 1, 6), (i.1 + 1, 12)] (l := (WrF i k [])) (h := _) (l' := (WrF i k [])) (H' := (WrG i L at' nodes segs ports sts vap set (cutPts x pl))) (by simp (config := { maxSteps := 500000 }) only [↓vp, vv, implies_true, forall_const, undef, InI, ↓reduceIte, simprocAttr, vz, listB, okKd, okK, lendKd, lendK, lendOk1B, frzF, Option.map_some, cond_true, cond_false, decide_true, decide_false, Bool.and_self, WrF, WrG, sE, cutPts, Seg.row, ra, rb, rc, rd, re, rf, rg, rh, ri, rj, t1, t2, t3, t4, hpl]) (by simp (config := { maxSteps := 500000 }) only [↓vp, vv, implies_true, forall_const, undef, InI, ↓reduceIte, simprocAttr, vz, listB, okKd, okK, lendKd, lendK, lendOk1B, frzF, Option.map_some, cond_true, cond_false, decide_true, decide_false, Bool.and_self, WrF, WrG, sE, cutPts, Seg.row, ra, rb, rc, rd, re, rf, rg, rh, ri, rj, t1, t2, t3, t4, hpl]) (by simp (config := { maxSteps := 500000 }) only [↓vp, vv, implies_true, forall_const, undef, InI, ↓reduceIte, simprocAttr, vz, listB, okKd, okK, lendKd, lendK, lendOk1B, frzF, Option.map_some, cond_true, cond_false, decide_true, decide_false, Bool.and_self, WrF, WrG, sE, cutPts, Seg.row, ra, rb, rc, rd, re, rf, rg, rh, ri, rj, t1, t2, t3, t4, hpl]; try rfl) (by simp (config := { maxSteps := 500000 }) only [↓vp, vv, implies_true, forall_const, undef, InI, ↓reduceIte, simprocAttr, vz, listB, okKd, okK, lendKd, lendK, lendOk1B, frzF, Option.map_some, cond_true, cond_false, decide_true, decide_false, Bool.and_self, WrF, WrG, sE, cutPts, Seg.row, ra, rb, rc, rd, re, rf, rg, rh, ri, rj, t1, t2, t3, t4, hpl]; try rfl) (by simp (config := { maxSteps := 500000 }) only [↓vp, vv, implies_true, forall_const, undef, InI, ↓reduceIte, simprocAttr, vz, listB, okKd, okK, lendKd, lendK, lendOk1B, frzF, Option.map_some, cond_true, cond_false, decide_true, decide_false, Bool.and_self, refsF, WrF, WrG, sE, cutPts, Seg.row, ra, rb, rc, rd, re, rf, rg, rh, ri, rj, t1, t2, t3, t4, hpl]) (by simp (config := { maxSteps := 500000 }) only [↓vp, vv, implies_true, forall_const, undef, InI, ↓reduceIte, simprocAttr, vz, listB, okKd, okK, lendKd, lendK, lendOk1B, frzF, Option.map_some, cond_true, cond_false, decide_true, decide_false, Bool.and_self, WrF, WrG, sE, cutPts, Seg.row, ra, rb, rc, rd, re, rf, rg, rh, ri, rj, t1, t2, t3, t4, hpl]) (by simp)))) ?_
  have k0 := idx_nn k
  have k1 : (k : Int) < segs.length := by omega
  have hg : (segs.map Seg.row).getD k [] = Seg.row segs[k] := getD_map Seg.row segs k hk
  have hd : List.drop 7 (Seg.row segs[k]) = [] := rfl
  have hl7 := seg_len segs[k]
  generalize cutPts x pl = y at hpost
  have e1 : (segs.map Seg.row).set k [ds y.name, di y.fr, di y.to, di y.cap, di y.resist, di y.wave, .sl (y.points.map Pt.row)] = (segs.set k y).map Seg.row := (List.map_set ..).symm
  generalize segs[k] = z at hg hd hl7
  generalize hzz : Seg.row z = zz at hg hd hl7
  have hpl2 := rows_pl Seg.row (fun _ => rfl) (segs.set k y)
  have e2 : ((segs.set k y).map Seg.row).take segs.length = (segs.set k y).map Seg.row := List.take_of_length_le (by simp)
  simp (config := { maxSteps := 500000 }) only [↓vp, vv, implies_true, forall_const, undef, InI, ↓reduceIte, simprocAttr, c34_4, r34, WrF, WrG, k0, k1, hk, Int.toNat_natCast, Seg.row, hg, hd, hl7, e1, e2, List.length_set, List.length_map]
  exact ⟨at', _, ho, hpost, rfl, rfl⟩
theorem nm1B_size (f : ByteArray) (n : Int) : (nm1B f n).size = f.size + 1 := by
  unfold nm1B
  rw [ByteArray.size_append]
  rfl
theorem at7 (k : Nat) (l : List Seg) (h : k < l.length) : ((l.map Seg.row).getD k []) = Seg.row l[k] := getD_map Seg.row l k h
set_option maxHeartbeats 16000000 in
theorem wr_sw (n : Net) (hn : NetOk n) (i : Nm) (L : List (List D)) (at' : Int) (ho : SrcOk L at') (kn : Nat) (hkn : kn < n.segs.length) (s : Seg) (hpt : s.points.length ≤ 8) (c : Int) (hc : 0 ≤ c ∧ c < 12) :
    vc T2 (fun t => (i.1 + 1, t)) [i] c34_3 (thenQ (vc T2 (fun t => (i.1 + 1, t)) [i] (.weak c34_4) (finQ r34 [i] false (SrcR i L (WrOk n) Net.enc))) (finQ r34 [i] false (SrcR i L (WrOk n) Net.enc))) ⟨fr (WrF i kn [(43, di c)]), WrH i L at' 1 n.nodes n.segs n.ports 1 n.sts n.vap n.set s s.points.length⟩ := by
  have hsl := hn.slen
  have hnl := hn.nlen
  have hql := hn.ports.len
  have htl := hn.sts.len
  have : c = 0 ∨ c = 1 ∨ c = 2 ∨ c = 3 ∨ c = 4 ∨ c = 5 ∨ c = 6 ∨ c = 7 ∨ c = 8 ∨ c = 9 ∨ c = 10 ∨ c = 11 := by omega
  have npt : ∀ s ∈ n.segs, s.points.length ≤ 8 := fun s hsm => by
    obtain ⟨j, a, b, _, _, _, hk, _⟩ := hn.segs.mem hsm
    have := hk.len
    omega
  have fin : ∀ (at1 : SA L) (gn : Nat) (nodes : List ByteArray) (ports : List Port) (gt : Nat) (sts : List Stn) (vap set : Int) (x : Seg) (pl : Nat), pl ≤ x.points.length → x.points.length ≤ 8 → nodes.length ≤ 60 → ports.length = n.ports.length → sts.length ≤ n.sts.length + 1 →
      ∀ st, Weak [i] st ⟨fr (WrF i kn []), WrH i L at1.1 gn nodes n.segs ports gt sts vap set x pl⟩ → vc T2 (fun t => (i.1 + 1, t)) [i] (.weak c34_4) (finQ r34 [i] false (SrcR i L (WrOk n) Net.enc)) st :=
    fun at1 gn nodes ports gt sts vap set x pl h1 h2 h3 h4 h5 st hw => wr_end i L at1.1 at1.2 n gn nodes n.segs ports gt sts vap set x pl h1 kn hkn ⟨h3, by simp, h4, h5, fun y hy => by
      rcases List.mem_or_eq_of_mem_set hy with hy | rfl
      · exact npt y hy
      · unfold cutPts; dsimp only; rw [List.length_take]; omega⟩ st hw
  have hm : ∀ j (h : j < n.nodes.length), (n.nodes.map nmRow).getD j [] = [ds n.nodes[j]] := fun j h => getD_map nmRow n.nodes j h
  rcases this with rfl | rfl | rfl | rfl | rfl | rfl | rfl | rfl | rfl | rfl | rfl | rfl
  · simp (config := { maxSteps := 500000 }) only [↓vp, vv, implies_true, forall_const, undef, InI, ↓reduceIte, simprocAttr, c34_3, T2, T1, selI, selText, selPick, selName, ho, WrF, WrH]
    refine ⟨⟨by omega, by omega⟩, fun a1 j hj a2 t ht => ?_⟩
    unfold NPost at hj
    obtain ⟨jn, rfl⟩ : ∃ jn : Nat, j = jn := ⟨j.toNat, by omega⟩
    have hjn : jn < n.nodes.length := by omega
    have j0 := idx_nn jn
    have j1 : (jn : Int) < n.nodes.length := by omega
    have hg := hm jn hjn
    have e1 : (n.nodes.map nmRow).set jn [ds t] = (n.nodes.set jn t).map nmRow := (List.map_set ..).symm
    simp (config := { maxSteps := 500000 }) only [↓vp, vv, implies_true, forall_const, undef, InI, ↓reduceIte, simprocAttr, Int.toNat_natCast, hjn, j0, j1, hg, e1]
    exact fin a2 1 (n.nodes.set jn t) n.ports 1 n.sts n.vap n.set s s.points.length (Nat.le_refl _) hpt (by rw [List.length_set]; omega) rfl (by omega) _ (weak_eq [] [i, (i.1 + 1, 3), (i.1 + 1, 4), (i.1 + 1, 6), (i.1 + 1, 7), (i.1 + 1, 12), (i.1 + 1, 17), (i.1 + 1, 22), (i.1 + 1, 37)] (WrF i kn []) (by simp (config := { maxSteps := 500000 }) only [↓vp, vv, implies_true, forall_const, undef, InI, ↓reduceIte, simprocAttr, coverS, WrF, WrH, sE, nmRow, Seg.row, Port.row, Stn.row, Pt.row, List.length_set]) (by simp (config := { maxSteps := 500000 }) only [↓vp, vv, implies_true, forall_const, undef, InI, ↓reduceIte, simprocAttr, refsF, WrF, WrH, sE, nmRow, Seg.row, Port.row, Stn.row, Pt.row, List.length_set]) (by simp (config := { maxSteps := 500000 }) only [↓vp, vv, implies_true, forall_const, undef, InI, ↓reduceIte, simprocAttr, WrF, WrH, sE, nmRow, Seg.row, Port.row, Stn.row, Pt.row, List.length_set]) (by simp) (by simp (config := { maxSteps := 500000 }) only [↓vp, vv, implies_true, forall_const, undef, InI, ↓reduceIte, simprocAttr, WrF, WrH, sE, nmRow, Seg.row, Port.row, Stn.row, Pt.row, List.length_set]; try rfl))
  · simp (config := { maxSteps := 500000 }) only [↓vp, vv, implies_true, forall_const, undef, InI, ↓reduceIte, simprocAttr, c34_3, T2, T1, selI, selText, selPick, selName, ho, WrF, WrH]
    intro a1 v hv
    exact fin a1 1 n.nodes n.ports 1 n.sts n.vap n.set ⟨s.name, v, s.to, s.cap, s.resist, s.wave, s.points⟩ s.points.length (Nat.le_refl _) hpt (by omega) rfl (by omega) _ (weak_eq [] [i, (i.1 + 1, 3), (i.1 + 1, 4), (i.1 + 1, 6), (i.1 + 1, 7), (i.1 + 1, 12), (i.1 + 1, 17), (i.1 + 1, 22), (i.1 + 1, 37)] (WrF i kn []) (by simp (config := { maxSteps := 500000 }) only [↓vp, vv, implies_true, forall_const, undef, InI, ↓reduceIte, simprocAttr, coverS, WrF, WrH, sE, nmRow, Seg.row, Port.row, Stn.row, Pt.row]) (by simp (config := { maxSteps := 500000 }) only [↓vp, vv, implies_true, forall_const, undef, InI, ↓reduceIte, simprocAttr, refsF, WrF, WrH, sE, nmRow, Seg.row, Port.row, Stn.row, Pt.row]) (by simp (config := { maxSteps := 500000 }) only [↓vp, vv, implies_true, forall_const, undef, InI, ↓reduceIte, simprocAttr, WrF, WrH, sE, nmRow, Seg.row, Port.row, Stn.row, Pt.row]) (by simp) (by simp (config := { maxSteps := 500000 }) only [↓vp, vv, implies_true, forall_const, undef, InI, ↓reduceIte, simprocAttr, WrF, WrH, sE, nmRow, Seg.row, Port.row, Stn.row, Pt.row]; try rfl))
  · simp (config := { maxSteps := 500000 }) only [↓vp, vv, implies_true, forall_const, undef, InI, ↓reduceIte, simprocAttr, c34_3, T2, T1, selI, selText, selPick, selName, ho, WrF, WrH]
    intro a1 v hv
    exact fin a1 1 n.nodes n.ports 1 n.sts n.vap n.set ⟨s.name, s.fr, s.to, v, s.resist, s.wave, s.points⟩ s.points.length (Nat.le_refl _) hpt (by omega) rfl (by omega) _ (weak_eq [] [i, (i.1 + 1, 3), (i.1 + 1, 4), (i.1 + 1, 6), (i.1 + 1, 7), (i.1 + 1, 12), (i.1 + 1, 17), (i.1 + 1, 22), (i.1 + 1, 37)] (WrF i kn []) (by simp (config := { maxSteps := 500000 }) only [↓vp, vv, implies_true, forall_const, undef, InI, ↓reduceIte, simprocAttr, coverS, WrF, WrH, sE, nmRow, Seg.row, Port.row, Stn.row, Pt.row]) (by simp (config := { maxSteps := 500000 }) only [↓vp, vv, implies_true, forall_const, undef, InI, ↓reduceIte, simprocAttr, refsF, WrF, WrH, sE, nmRow, Seg.row, Port.row, Stn.row, Pt.row]) (by simp (config := { maxSteps := 500000 }) only [↓vp, vv, implies_true, forall_const, undef, InI, ↓reduceIte, simprocAttr, WrF, WrH, sE, nmRow, Seg.row, Port.row, Stn.row, Pt.row]) (by simp) (by simp (config := { maxSteps := 500000 }) only [↓vp, vv, implies_true, forall_const, undef, InI, ↓reduceIte, simprocAttr, WrF, WrH, sE, nmRow, Seg.row, Port.row, Stn.row, Pt.row]; try rfl))
  · simp (config := { maxSteps := 500000 }) only [↓vp, vv, implies_true, forall_const, undef, InI, ↓reduceIte, simprocAttr, c34_3, T2, T1, selI, selText, selPick, selName, ho, WrF, WrH]
    intro a1 v hv
    exact fin a1 1 n.nodes n.ports 1 n.sts n.vap n.set ⟨s.name, s.fr, s.to, s.cap, v, s.wave, s.points⟩ s.points.length (Nat.le_refl _) hpt (by omega) rfl (by omega) _ (weak_eq [] [i, (i.1 + 1, 3), (i.1 + 1, 4), (i.1 + 1, 6), (i.1 + 1, 7), (i.1 + 1, 12), (i.1 + 1, 17), (i.1 + 1, 22), (i.1 + 1, 37)] (WrF i kn []) (by simp (config := { maxSteps := 500000 }) only [↓vp, vv, implies_true, forall_const, undef, InI, ↓reduceIte, simprocAttr, coverS, WrF, WrH, sE, nmRow, Seg.row, Port.row, Stn.row, Pt.row]) (by simp (config := { maxSteps := 500000 }) only [↓vp, vv, implies_true, forall_const, undef, InI, ↓reduceIte, simprocAttr, refsF, WrF, WrH, sE, nmRow, Seg.row, Port.row, Stn.row, Pt.row]) (by simp (config := { maxSteps := 500000 }) only [↓vp, vv, implies_true, forall_const, undef, InI, ↓reduceIte, simprocAttr, WrF, WrH, sE, nmRow, Seg.row, Port.row, Stn.row, Pt.row]) (by simp) (by simp (config := { maxSteps := 500000 }) only [↓vp, vv, implies_true, forall_const, undef, InI, ↓reduceIte, simprocAttr, WrF, WrH, sE, nmRow, Seg.row, Port.row, Stn.row, Pt.row]; try rfl))
  · simp (config := { maxSteps := 500000 }) only [↓vp, vv, implies_true, forall_const, undef, InI, ↓reduceIte, simprocAttr, c34_3, T2, T1, selI, selText, selPick, selName, ho, WrF, WrH]
    intro a1 v hv
    exact fin a1 1 n.nodes n.ports 1 n.sts n.vap n.set ⟨s.name, s.fr, s.to, s.cap, s.resist, v, s.points⟩ s.points.length (Nat.le_refl _) hpt (by omega) rfl (by omega) _ (weak_eq [] [i, (i.1 + 1, 3), (i.1 + 1, 4), (i.1 + 1, 6), (i.1 + 1, 7), (i.1 + 1, 12), (i.1 + 1, 17), (i.1 + 1, 22), (i.1 + 1, 37)] (WrF i kn []) (by simp (config := { maxSteps := 500000 }) only [↓vp, vv, implies_true, forall_const, undef, InI, ↓reduceIte, simprocAttr, coverS, WrF, WrH, sE, nmRow, Seg.row, Port.row, Stn.row, Pt.row]) (by simp (config := { maxSteps := 500000 }) only [↓vp, vv, implies_true, forall_const, undef, InI, ↓reduceIte, simprocAttr, refsF, WrF, WrH, sE, nmRow, Seg.row, Port.row, Stn.row, Pt.row]) (by simp (config := { maxSteps := 500000 }) only [↓vp, vv, implies_true, forall_const, undef, InI, ↓reduceIte, simprocAttr, WrF, WrH, sE, nmRow, Seg.row, Port.row, Stn.row, Pt.row]) (by simp) (by simp (config := { maxSteps := 500000 }) only [↓vp, vv, implies_true, forall_const, undef, InI, ↓reduceIte, simprocAttr, WrF, WrH, sE, nmRow, Seg.row, Port.row, Stn.row, Pt.row]; try rfl))
  · simp (config := { maxSteps := 500000 }) only [↓vp, vv, implies_true, forall_const, undef, InI, ↓reduceIte, simprocAttr, c34_3, T2, T1, selI, selText, selPick, selName, ho, WrF, WrH]
    split
    · refine ⟨⟨by omega, by omega⟩, fun a1 j hj a2 v hv => ?_⟩
      unfold NPost at hj
      obtain ⟨jn, rfl⟩ : ∃ jn : Nat, j = jn := ⟨j.toNat, by omega⟩
      have hjn : jn < s.points.length := by omega
      have j0 := idx_nn jn
      have j1 : (jn : Int) < s.points.length := by omega
      have hg : (s.points.map Pt.row).getD jn [] = Pt.row s.points[jn] := getD_map Pt.row s.points jn hjn
      generalize s.points[jn] = p0 at hg
      have e1 : (s.points.map Pt.row).set jn [di v, di p0.height, di p0.limit] = (s.points.set jn ⟨v, p0.height, p0.limit⟩).map Pt.row := by rw [List.map_set]; rfl
      simp (config := { maxSteps := 500000 }) only [↓vp, vv, implies_true, forall_const, undef, InI, ↓reduceIte, simprocAttr, Int.toNat_natCast, hjn, j0, j1, hg, Pt.row, e1]
      exact fin a2 1 n.nodes n.ports 1 n.sts n.vap n.set ⟨s.name, s.fr, s.to, s.cap, s.resist, s.wave, s.points.set jn ⟨v, p0.height, p0.limit⟩⟩ s.points.length (by simp) (by simpa using hpt) (by omega) rfl (by omega) _ (weak_eq [] [i, (i.1 + 1, 3), (i.1 + 1, 4), (i.1 + 1, 6), (i.1 + 1, 7), (i.1 + 1, 12), (i.1 + 1, 17), (i.1 + 1, 22), (i.1 + 1, 37)] (WrF i kn []) (by simp (config := { maxSteps := 500000 }) only [↓vp, vv, implies_true, forall_const, undef, InI, ↓reduceIte, simprocAttr, coverS, WrF, WrH, sE, nmRow, Seg.row, Port.row, Stn.row, Pt.row, e1, List.length_set]) (by simp (config := { maxSteps := 500000 }) only [↓vp, vv, implies_true, forall_const, undef, InI, ↓reduceIte, simprocAttr, refsF, WrF, WrH, sE, nmRow, Seg.row, Port.row, Stn.row, Pt.row, e1, List.length_set]) (by simp (config := { maxSteps := 500000 }) only [↓vp, vv, implies_true, forall_const, undef, InI, ↓reduceIte, simprocAttr, WrF, WrH, sE, nmRow, Seg.row, Port.row, Stn.row, Pt.row, e1, List.length_set]) (by simp) (by simp (config := { maxSteps := 500000 }) only [↓vp, vv, implies_true, forall_const, undef, InI, ↓reduceIte, simprocAttr, WrF, WrH, sE, nmRow, Seg.row, Port.row, Stn.row, Pt.row, e1, List.length_set]; try rfl))
    · exact fin ⟨at', ho⟩ 1 n.nodes n.ports 1 n.sts n.vap n.set s s.points.length (Nat.le_refl _) hpt (by omega) rfl (by omega) _ (weak_eq [] [i, (i.1 + 1, 3), (i.1 + 1, 4), (i.1 + 1, 6), (i.1 + 1, 7), (i.1 + 1, 12), (i.1 + 1, 17), (i.1 + 1, 22), (i.1 + 1, 37)] (WrF i kn []) (by simp (config := { maxSteps := 500000 }) only [↓vp, vv, implies_true, forall_const, undef, InI, ↓reduceIte, simprocAttr, coverS, WrF, WrH, sE, nmRow, Seg.row, Port.row, Stn.row, Pt.row]) (by simp (config := { maxSteps := 500000 }) only [↓vp, vv, implies_true, forall_const, undef, InI, ↓reduceIte, simprocAttr, refsF, WrF, WrH, sE, nmRow, Seg.row, Port.row, Stn.row, Pt.row]) (by simp (config := { maxSteps := 500000 }) only [↓vp, vv, implies_true, forall_const, undef, InI, ↓reduceIte, simprocAttr, WrF, WrH, sE, nmRow, Seg.row, Port.row, Stn.row, Pt.row]) (by simp) (by simp (config := { maxSteps := 500000 }) only [↓vp, vv, implies_true, forall_const, undef, InI, ↓reduceIte, simprocAttr, WrF, WrH, sE, nmRow, Seg.row, Port.row, Stn.row, Pt.row]; try rfl))
  · simp (config := { maxSteps := 500000 }) only [↓vp, vv, implies_true, forall_const, undef, InI, ↓reduceIte, simprocAttr, c34_3, T2, T1, selI, selText, selPick, selName, ho, WrF, WrH]
    have w1 : IntKind.i64.wrap ((s.points.length : Int) + 1) = s.points.length + 1 := wrap_i (by omega)
    obtain ⟨q, hq, q1, q2⟩ : ∃ q : Int, (if (s.points.length : Int) + 1 < 3 then (s.points.length : Int) + 1 else 3) = q ∧ 1 ≤ q ∧ q ≤ s.points.length + 1 := ⟨_, rfl, by split <;> omega, by split <;> omega⟩
    simp only [w1, hq]
    refine ⟨⟨by omega, by omega⟩, fun a1 j hj => ?_⟩
    unfold NPost at hj
    obtain ⟨jn, rfl⟩ : ∃ jn : Nat, j = jn := ⟨j.toNat, by omega⟩
    refine ⟨by omega, ?_⟩
    exact fin a1 1 n.nodes n.ports 1 n.sts n.vap n.set s jn (by omega) hpt (by omega) rfl (by omega) _ (weak_eq [] [i, (i.1 + 1, 3), (i.1 + 1, 4), (i.1 + 1, 6), (i.1 + 1, 7), (i.1 + 1, 12), (i.1 + 1, 17), (i.1 + 1, 22), (i.1 + 1, 37)] (WrF i kn []) (by simp (config := { maxSteps := 500000 }) only [↓vp, vv, implies_true, forall_const, undef, InI, ↓reduceIte, simprocAttr, coverS, WrF, WrH, sE, nmRow, Seg.row, Port.row, Stn.row, Pt.row, Int.toNat_natCast, Nat.sub_zero]) (by simp (config := { maxSteps := 500000 }) only [↓vp, vv, implies_true, forall_const, undef, InI, ↓reduceIte, simprocAttr, refsF, WrF, WrH, sE, nmRow, Seg.row, Port.row, Stn.row, Pt.row, Int.toNat_natCast, Nat.sub_zero]) (by simp (config := { maxSteps := 500000 }) only [↓vp, vv, implies_true, forall_const, undef, InI, ↓reduceIte, simprocAttr, WrF, WrH, sE, nmRow, Seg.row, Port.row, Stn.row, Pt.row, Int.toNat_natCast, Nat.sub_zero]) (by simp) (by simp (config := { maxSteps := 500000 }) only [↓vp, vv, implies_true, forall_const, undef, InI, ↓reduceIte, simprocAttr, WrF, WrH, sE, nmRow, Seg.row, Port.row, Stn.row, Pt.row, Int.toNat_natCast, Nat.sub_zero]; try rfl))
  · simp (config := { maxSteps := 500000 }) only [↓vp, vv, implies_true, forall_const, undef, InI, ↓reduceIte, simprocAttr, c34_3, T2, T1, selI, selText, selPick, selName, ho, WrF, WrH]
    split
    · refine ⟨⟨by omega, by omega⟩, fun a1 j hj a2 v hv => ?_⟩
      unfold NPost at hj
      obtain ⟨jn, rfl⟩ : ∃ jn : Nat, j = jn := ⟨j.toNat, by omega⟩
      have hjn : jn < s.points.length := by omega
      have j0 := idx_nn jn
      have j1 : (jn : Int) < s.points.length := by omega
      have hg : (s.points.map Pt.row).getD jn [] = Pt.row s.points[jn] := getD_map Pt.row s.points jn hjn
      generalize s.points[jn] = p0 at hg
      have e1 : (s.points.map Pt.row).set jn [di p0.at', di v, di p0.limit] = (s.points.set jn ⟨p0.at', v, p0.limit⟩).map Pt.row := by rw [List.map_set]; rfl
      simp (config := { maxSteps := 500000 }) only [↓vp, vv, implies_true, forall_const, undef, InI, ↓reduceIte, simprocAttr, Int.toNat_natCast, hjn, j0, j1, hg, Pt.row, e1]
      exact fin a2 1 n.nodes n.ports 1 n.sts n.vap n.set ⟨s.name, s.fr, s.to, s.cap, s.resist, s.wave, s.points.set jn ⟨p0.at', v, p0.limit⟩⟩ s.points.length (by simp) (by simpa using hpt) (by omega) rfl (by omega) _ (weak_eq [] [i, (i.1 + 1, 3), (i.1 + 1, 4), (i.1 + 1, 6), (i.1 + 1, 7), (i.1 + 1, 12), (i.1 + 1, 17), (i.1 + 1, 22), (i.1 + 1, 37)] (WrF i kn []) (by simp (config := { maxSteps := 500000 }) only [↓vp, vv, implies_true, forall_const, undef, InI, ↓reduceIte, simprocAttr, coverS, WrF, WrH, sE, nmRow, Seg.row, Port.row, Stn.row, Pt.row, e1, List.length_set]) (by simp (config := { maxSteps := 500000 }) only [↓vp, vv, implies_true, forall_const, undef, InI, ↓reduceIte, simprocAttr, refsF, WrF, WrH, sE, nmRow, Seg.row, Port.row, Stn.row, Pt.row, e1, List.length_set]) (by simp (config := { maxSteps := 500000 }) only [↓vp, vv, implies_true, forall_const, undef, InI, ↓reduceIte, simprocAttr, WrF, WrH, sE, nmRow, Seg.row, Port.row, Stn.row, Pt.row, e1, List.length_set]) (by simp) (by simp (config := { maxSteps := 500000 }) only [↓vp, vv, implies_true, forall_const, undef, InI, ↓reduceIte, simprocAttr, WrF, WrH, sE, nmRow, Seg.row, Port.row, Stn.row, Pt.row, e1, List.length_set]; try rfl))
    · exact fin ⟨at', ho⟩ 1 n.nodes n.ports 1 n.sts n.vap n.set s s.points.length (Nat.le_refl _) hpt (by omega) rfl (by omega) _ (weak_eq [] [i, (i.1 + 1, 3), (i.1 + 1, 4), (i.1 + 1, 6), (i.1 + 1, 7), (i.1 + 1, 12), (i.1 + 1, 17), (i.1 + 1, 22), (i.1 + 1, 37)] (WrF i kn []) (by simp (config := { maxSteps := 500000 }) only [↓vp, vv, implies_true, forall_const, undef, InI, ↓reduceIte, simprocAttr, coverS, WrF, WrH, sE, nmRow, Seg.row, Port.row, Stn.row, Pt.row]) (by simp (config := { maxSteps := 500000 }) only [↓vp, vv, implies_true, forall_const, undef, InI, ↓reduceIte, simprocAttr, refsF, WrF, WrH, sE, nmRow, Seg.row, Port.row, Stn.row, Pt.row]) (by simp (config := { maxSteps := 500000 }) only [↓vp, vv, implies_true, forall_const, undef, InI, ↓reduceIte, simprocAttr, WrF, WrH, sE, nmRow, Seg.row, Port.row, Stn.row, Pt.row]) (by simp) (by simp (config := { maxSteps := 500000 }) only [↓vp, vv, implies_true, forall_const, undef, InI, ↓reduceIte, simprocAttr, WrF, WrH, sE, nmRow, Seg.row, Port.row, Stn.row, Pt.row]; try rfl))
  · simp (config := { maxSteps := 500000 }) only [↓vp, vv, implies_true, forall_const, undef, InI, ↓reduceIte, simprocAttr, c34_3, T2, T1, selI, selText, selPick, selName, ho, WrF, WrH]
    split
    · refine ⟨⟨by omega, by omega⟩, fun a1 j hj a2 t ht a3 v hv a4 u hu => ?_⟩
      unfold NPost at hj
      obtain ⟨jn, rfl⟩ : ∃ jn : Nat, j = jn := ⟨j.toNat, by omega⟩
      have hjn : jn < n.ports.length := by omega
      have j0 := idx_nn jn
      have j1 : (jn : Int) < n.ports.length := by omega
      have hg : (n.ports.map Port.row).getD jn [] = Port.row n.ports[jn] := getD_map Port.row n.ports jn hjn
      generalize n.ports[jn] = p0 at hg
      have e1 : (n.ports.map Port.row).set jn [ds t, di v, di u] = (n.ports.set jn ⟨t, v, u⟩).map Port.row := by rw [List.map_set]; rfl
      simp (config := { maxSteps := 500000 }) only [↓vp, vv, implies_true, forall_const, undef, InI, ↓reduceIte, simprocAttr, Int.toNat_natCast, hjn, j0, j1, hg, Port.row, e1]
      exact fin a4 1 n.nodes (n.ports.set jn ⟨t, v, u⟩) 1 n.sts n.vap n.set s s.points.length (Nat.le_refl _) hpt (by omega) (by simp) (by omega) _ (weak_eq [] [i, (i.1 + 1, 3), (i.1 + 1, 4), (i.1 + 1, 6), (i.1 + 1, 7), (i.1 + 1, 12), (i.1 + 1, 17), (i.1 + 1, 22), (i.1 + 1, 37)] (WrF i kn []) (by simp (config := { maxSteps := 500000 }) only [↓vp, vv, implies_true, forall_const, undef, InI, ↓reduceIte, simprocAttr, coverS, WrF, WrH, sE, nmRow, Seg.row, Port.row, Stn.row, Pt.row, e1, List.length_set]) (by simp (config := { maxSteps := 500000 }) only [↓vp, vv, implies_true, forall_const, undef, InI, ↓reduceIte, simprocAttr, refsF, WrF, WrH, sE, nmRow, Seg.row, Port.row, Stn.row, Pt.row, e1, List.length_set]) (by simp (config := { maxSteps := 500000 }) only [↓vp, vv, implies_true, forall_const, undef, InI, ↓reduceIte, simprocAttr, WrF, WrH, sE, nmRow, Seg.row, Port.row, Stn.row, Pt.row, e1, List.length_set]) (by simp) (by simp (config := { maxSteps := 500000 }) only [↓vp, vv, implies_true, forall_const, undef, InI, ↓reduceIte, simprocAttr, WrF, WrH, sE, nmRow, Seg.row, Port.row, Stn.row, Pt.row, e1, List.length_set]; try rfl))
    · exact fin ⟨at', ho⟩ 1 n.nodes n.ports 1 n.sts n.vap n.set s s.points.length (Nat.le_refl _) hpt (by omega) rfl (by omega) _ (weak_eq [] [i, (i.1 + 1, 3), (i.1 + 1, 4), (i.1 + 1, 6), (i.1 + 1, 7), (i.1 + 1, 12), (i.1 + 1, 17), (i.1 + 1, 22), (i.1 + 1, 37)] (WrF i kn []) (by simp (config := { maxSteps := 500000 }) only [↓vp, vv, implies_true, forall_const, undef, InI, ↓reduceIte, simprocAttr, coverS, WrF, WrH, sE, nmRow, Seg.row, Port.row, Stn.row, Pt.row]) (by simp (config := { maxSteps := 500000 }) only [↓vp, vv, implies_true, forall_const, undef, InI, ↓reduceIte, simprocAttr, refsF, WrF, WrH, sE, nmRow, Seg.row, Port.row, Stn.row, Pt.row]) (by simp (config := { maxSteps := 500000 }) only [↓vp, vv, implies_true, forall_const, undef, InI, ↓reduceIte, simprocAttr, WrF, WrH, sE, nmRow, Seg.row, Port.row, Stn.row, Pt.row]) (by simp) (by simp (config := { maxSteps := 500000 }) only [↓vp, vv, implies_true, forall_const, undef, InI, ↓reduceIte, simprocAttr, WrF, WrH, sE, nmRow, Seg.row, Port.row, Stn.row, Pt.row]; try rfl))
  · simp (config := { maxSteps := 500000 }) only [↓vp, vv, implies_true, forall_const, undef, InI, ↓reduceIte, simprocAttr, c34_3, T2, T1, selI, selText, selPick, selName, ho, WrF, WrH]
    intro a1 t ht a2 v1 hv1 a3 v2 hv2 a4 v3 hv3 a5 v4 hv4
    refine ⟨⟨by omega, by omega⟩, ?_⟩
    have e1 : n.sts.map Stn.row ++ [[ds t, di v1, di v2, di v3, di v4]] = (n.sts ++ [(⟨t, v1, v2, v3, v4⟩ : Stn)]).map Stn.row := by rw [List.map_append]; rfl
    exact fin a5 1 n.nodes n.ports 2 (n.sts ++ [⟨t, v1, v2, v3, v4⟩]) n.vap n.set s s.points.length (Nat.le_refl _) hpt (by omega) rfl (by simp) _ (weak_eq [] [i, (i.1 + 1, 3), (i.1 + 1, 4), (i.1 + 1, 6), (i.1 + 1, 7), (i.1 + 1, 12), (i.1 + 1, 17), (i.1 + 1, 22), (i.1 + 1, 37)] (WrF i kn []) (by simp (config := { maxSteps := 500000 }) only [↓vp, vv, implies_true, forall_const, undef, InI, ↓reduceIte, simprocAttr, coverS, WrF, WrH, sE, nmRow, Seg.row, Port.row, Stn.row, Pt.row, e1, List.length_append, List.length_cons, List.length_nil]) (by simp (config := { maxSteps := 500000 }) only [↓vp, vv, implies_true, forall_const, undef, InI, ↓reduceIte, simprocAttr, refsF, WrF, WrH, sE, nmRow, Seg.row, Port.row, Stn.row, Pt.row, e1, List.length_append, List.length_cons, List.length_nil]) (by simp (config := { maxSteps := 500000 }) only [↓vp, vv, implies_true, forall_const, undef, InI, ↓reduceIte, simprocAttr, WrF, WrH, sE, nmRow, Seg.row, Port.row, Stn.row, Pt.row, e1, List.length_append, List.length_cons, List.length_nil]) (by simp) (by simp (config := { maxSteps := 500000 }) only [↓vp, vv, implies_true, forall_const, undef, InI, ↓reduceIte, simprocAttr, WrF, WrH, sE, nmRow, Seg.row, Port.row, Stn.row, Pt.row, e1, List.length_append, List.length_cons, List.length_nil]; try rfl))
  · simp (config := { maxSteps := 500000 }) only [↓vp, vv, implies_true, forall_const, undef, InI, ↓reduceIte, simprocAttr, c34_3, T2, T1, selI, selText, selPick, selName, ho, WrF, WrH]
    intro a1 v hv a2 t ht
    exact fin a2 1 n.nodes n.ports 1 n.sts v t s s.points.length (Nat.le_refl _) hpt (by omega) rfl (by omega) _ (weak_eq [] [i, (i.1 + 1, 3), (i.1 + 1, 4), (i.1 + 1, 6), (i.1 + 1, 7), (i.1 + 1, 12), (i.1 + 1, 17), (i.1 + 1, 22), (i.1 + 1, 37)] (WrF i kn []) (by simp (config := { maxSteps := 500000 }) only [↓vp, vv, implies_true, forall_const, undef, InI, ↓reduceIte, simprocAttr, coverS, WrF, WrH, sE, nmRow, Seg.row, Port.row, Stn.row, Pt.row]) (by simp (config := { maxSteps := 500000 }) only [↓vp, vv, implies_true, forall_const, undef, InI, ↓reduceIte, simprocAttr, refsF, WrF, WrH, sE, nmRow, Seg.row, Port.row, Stn.row, Pt.row]) (by simp (config := { maxSteps := 500000 }) only [↓vp, vv, implies_true, forall_const, undef, InI, ↓reduceIte, simprocAttr, WrF, WrH, sE, nmRow, Seg.row, Port.row, Stn.row, Pt.row]) (by simp) (by simp (config := { maxSteps := 500000 }) only [↓vp, vv, implies_true, forall_const, undef, InI, ↓reduceIte, simprocAttr, WrF, WrH, sE, nmRow, Seg.row, Port.row, Stn.row, Pt.row]; try rfl))
  · simp (config := { maxSteps := 500000 }) only [↓vp, vv, implies_true, forall_const, undef, InI, ↓reduceIte, simprocAttr, c34_3, T2, T1, selI, selText, selPick, selName, ho, WrF, WrH]
    rw [vc_loop]
    refine ⟨fun k st => ∃ (a : SA L) (g : Nat) (nodes : List ByteArray), nodes.length + k = 26 ∧ st = ⟨fr (WrF i kn []), WrH i L a.1 g nodes n.segs n.ports 1 n.sts n.vap n.set s s.points.length⟩, ⟨26 - n.nodes.length, _, (weak_eq [] [i, (i.1 + 1, 3), (i.1 + 1, 4), (i.1 + 1, 6), (i.1 + 1, 7), (i.1 + 1, 12), (i.1 + 1, 17), (i.1 + 1, 22), (i.1 + 1, 37)] (WrF i kn []) (by simp (config := { maxSteps := 500000 }) only [↓vp, vv, implies_true, forall_const, undef, InI, ↓reduceIte, simprocAttr, coverS, WrF, WrH, sE, nmRow, Seg.row, Port.row, Stn.row, Pt.row]) (by simp (config := { maxSteps := 500000 }) only [↓vp, vv, implies_true, forall_const, undef, InI, ↓reduceIte, simprocAttr, refsF, WrF, WrH, sE, nmRow, Seg.row, Port.row, Stn.row, Pt.row]) (by simp (config := { maxSteps := 500000 }) only [↓vp, vv, implies_true, forall_const, undef, InI, ↓reduceIte, simprocAttr, WrF, WrH, sE, nmRow, Seg.row, Port.row, Stn.row, Pt.row]) (by simp) (by simp (config := { maxSteps := 500000 }) only [↓vp, vv, implies_true, forall_const, undef, InI, ↓reduceIte, simprocAttr, WrF, WrH, sE, nmRow, Seg.row, Port.row, Stn.row, Pt.row]; try rfl)), ⟨at', ho⟩, 1, n.nodes, by omega, rfl⟩, ?_⟩
    rintro m st ⟨a, g, nodes, hm, rfl⟩
    have o1 := a.2
    simp (config := { maxSteps := 500000 }) only [↓vp, vv, implies_true, forall_const, undef, InI, ↓reduceIte, simprocAttr, c34_2, c34_1, T2, T1, selI, selText, selPick, selName, o1, WrF, WrH]
    intro a1 b hb
    unfold NPost at hb
    have w1 : IntKind.i64.wrap (23 + b) = 23 + b := wrap_i (by omega)
    simp only [w1]
    split
    · have e1 : nodes.map nmRow ++ [[ds (nm1B ⟨#[121]⟩ nodes.length ++ nm1B ⟨#[]⟩ (IntKind.i64.wrap ((nodes.length : Int).tdiv 26)))]] = (nodes ++ [nm1B ⟨#[121]⟩ nodes.length ++ nm1B ⟨#[]⟩ (IntKind.i64.wrap ((nodes.length : Int).tdiv 26))]).map nmRow := by rw [List.map_append]; rfl
      refine ⟨by decide, by decide, ?_, ⟨by omega, by omega⟩, m - 1, _, by omega, (weak_eq [] [i, (i.1 + 1, 3), (i.1 + 1, 4), (i.1 + 1, 6), (i.1 + 1, 7), (i.1 + 1, 12), (i.1 + 1, 17), (i.1 + 1, 22), (i.1 + 1, 37)] (WrF i kn []) (by simp (config := { maxSteps := 500000 }) only [↓vp, vv, implies_true, forall_const, undef, InI, ↓reduceIte, simprocAttr, coverS, WrF, WrH, sE, nmRow, Seg.row, Port.row, Stn.row, Pt.row, e1, List.length_append, List.length_cons, List.length_nil]) (by simp (config := { maxSteps := 500000 }) only [↓vp, vv, implies_true, forall_const, undef, InI, ↓reduceIte, simprocAttr, refsF, WrF, WrH, sE, nmRow, Seg.row, Port.row, Stn.row, Pt.row, e1, List.length_append, List.length_cons, List.length_nil]) (by simp (config := { maxSteps := 500000 }) only [↓vp, vv, implies_true, forall_const, undef, InI, ↓reduceIte, simprocAttr, WrF, WrH, sE, nmRow, Seg.row, Port.row, Stn.row, Pt.row, e1, List.length_append, List.length_cons, List.length_nil]) (by simp) (by simp (config := { maxSteps := 500000 }) only [↓vp, vv, implies_true, forall_const, undef, InI, ↓reduceIte, simprocAttr, WrF, WrH, sE, nmRow, Seg.row, Port.row, Stn.row, Pt.row, e1, List.length_append, List.length_cons, List.length_nil]; try rfl)), a1, g + 1, nodes ++ [nm1B ⟨#[121]⟩ nodes.length ++ nm1B ⟨#[]⟩ (IntKind.i64.wrap ((nodes.length : Int).tdiv 26))], by simp; omega, rfl⟩
      rw [nm1B_size, nm1B_size]
      decide
    · exact fin a1 g nodes n.ports 1 n.sts n.vap n.set s s.points.length (Nat.le_refl _) hpt (by omega) rfl (by omega) _ (weak_eq [] [i, (i.1 + 1, 3), (i.1 + 1, 4), (i.1 + 1, 6), (i.1 + 1, 7), (i.1 + 1, 12), (i.1 + 1, 17), (i.1 + 1, 22), (i.1 + 1, 37)] (WrF i kn []) (by simp (config := { maxSteps := 500000 }) only [↓vp, vv, implies_true, forall_const, undef, InI, ↓reduceIte, simprocAttr, coverS, WrF, WrH, sE, nmRow, Seg.row, Port.row, Stn.row, Pt.row]) (by simp (config := { maxSteps := 500000 }) only [↓vp, vv, implies_true, forall_const, undef, InI, ↓reduceIte, simprocAttr, refsF, WrF, WrH, sE, nmRow, Seg.row, Port.row, Stn.row, Pt.row]) (by simp (config := { maxSteps := 500000 }) only [↓vp, vv, implies_true, forall_const, undef, InI, ↓reduceIte, simprocAttr, WrF, WrH, sE, nmRow, Seg.row, Port.row, Stn.row, Pt.row]) (by simp) (by simp (config := { maxSteps := 500000 }) only [↓vp, vv, implies_true, forall_const, undef, InI, ↓reduceIte, simprocAttr, WrF, WrH, sE, nmRow, Seg.row, Port.row, Stn.row, Pt.row]; try rfl))
set_option maxHeartbeats 16000000 in
theorem Wrong_c (n : Net) (hn : NetOk n) : SrcC Try.prog 34 [n.enc] (WrOk n) Net.enc := by
  intro i L at' nn ho
  obtain ⟨code, h1, h2⟩ := c34_ok
  refine callsA_of T2_ok mixed (N := fun t => (i.1 + 1, t)) Try.func34 h1 h2 r34_ok [i] false js_one js_one' (by simp [Try.f34]) ?_
  have hsl := hn.slen
  have hnl := hn.nlen
  have hql := hn.ports.len
  have htl := hn.sts.len
  have y1 : n.nodes.length * 16 ≤ 140737488355328 := by omega
  have y2 : n.nodes.length ≤ 4611686018427387904 := by omega
  have y3 : n.segs.length * 80 ≤ 140737488355328 := by omega
  have y4 : n.segs.length ≤ 4611686018427387904 := by omega
  have y5 : n.ports.length * 32 ≤ 140737488355328 := by omega
  have y6 : n.ports.length ≤ 4611686018427387904 := by omega
  have y7 : n.sts.length * 48 ≤ 140737488355328 := by omega
  have y8 : n.sts.length ≤ 4611686018427387904 := by omega
  simp (config := { maxSteps := 500000 }) only [↓vp, vv, implies_true, forall_const, undef, InI, ↓reduceIte, simprocAttr, c34, T2, T1, selI, ho, Net.enc, nm_len, seg_len, port_len, stn_len, pt_len, y1, y2, y3, y4, y5, y6, y7, y8]
  refine ⟨⟨by omega, by omega⟩, fun a1 k hk => ?_⟩
  unfold NPost at hk
  obtain ⟨kn, rfl⟩ : ∃ kn : Nat, k = kn := ⟨k.toNat, by omega⟩
  have hkn : kn < n.segs.length := by omega
  have k0 := idx_nn kn
  have k1 : (kn : Int) < n.segs.length := by omega
  obtain ⟨s, hs⟩ : ∃ s, n.segs[kn] = s := ⟨_, rfl⟩
  have hsm : s ∈ n.segs := hs ▸ List.getElem_mem hkn
  have hg := at7 kn n.segs hkn
  rw [hs] at hg
  have hpt : s.points.length ≤ 8 := by
    obtain ⟨j, a, b, _, _, _, hk, _⟩ := hn.segs.mem hsm
    have := hk.len
    omega
  have z1 : s.points.length * 24 ≤ 140737488355328 := by omega
  have z2 : s.points.length ≤ 4611686018427387904 := by omega
  simp (config := { maxSteps := 500000 }) only [↓vp, vv, implies_true, forall_const, undef, InI, ↓reduceIte, simprocAttr, T2, T1, selI, a1.2, Int.toNat_natCast, hkn, k0, k1, hg, seg_len, Seg.row, pt_len, z1, z2]
  intro a2 c hc
  unfold NPost at hc
  refine vc_wk (weak_eq [] [i, (i.1 + 1, 3), (i.1 + 1, 4), (i.1 + 1, 6), (i.1 + 1, 7), (i.1 + 1, 12), (i.1 + 1, 17), (i.1 + 1, 22), (i.1 + 1, 37)] (WrF i kn [(43, di c)]) (by simp (config := { maxSteps := 500000 }) only [↓vp, vv, implies_true, forall_const, undef, InI, ↓reduceIte, simprocAttr, coverS, WrF, WrH, sE, nmRow, Seg.row, Port.row, Stn.row, Pt.row]) (by simp (config := { maxSteps := 500000 }) only [↓vp, vv, implies_true, forall_const, undef, InI, ↓reduceIte, simprocAttr, refsF, WrF, WrH, sE, nmRow, Seg.row, Port.row, Stn.row, Pt.row]) (by simp (config := { maxSteps := 500000 }) only [↓vp, vv, implies_true, forall_const, undef, InI, ↓reduceIte, simprocAttr, WrF, WrH, sE, nmRow, Seg.row, Port.row, Stn.row, Pt.row]) (by simp) (by simp (config := { maxSteps := 500000 }) only [↓vp, vv, implies_true, forall_const, undef, InI, ↓reduceIte, simprocAttr, WrF, WrH, sE, nmRow, Seg.row, Port.row, Stn.row, Pt.row]; try rfl)) ?_
  exact wr_sw n hn i L a2.1 a2.2 kn hkn s hpt c (by omega)
end Go.Proofs.Ytkjibmfggeibjaa

/- Lineups: the reference's Need, Permits, Shut; Shut for any lineup. -/
/- Lineups: the reference's Need, Permits, Shut; Shut for any lineup. -/
namespace Go.Proofs.Ytkjibmfggeibjaa
open Go
set_option linter.unusedVariables false
set_option linter.unusedSimpArgs false
set_option maxRecDepth 100000

end Go.Proofs.Ytkjibmfggeibjaa
/- Lineups: Changes, Permits, Shut for any lineups, of both. -/
namespace Go.Proofs.Ytkjibmfggeibjaa
open Go
set_option linter.unusedVariables false
set_option linter.unusedSimpArgs false
set_option maxRecDepth 100000

end Go.Proofs.Ytkjibmfggeibjaa
/- Lineups of valves. -/
namespace Go.Proofs.Ytkjibmfggeibjaa
open Go
set_option linter.unusedVariables false
set_option linter.unusedSimpArgs false
set_option maxRecDepth 100000

structure Vlv where
  tr : Int
  op : Int
  wa : Bool
  st : Bool
def Vlv.row (v : Vlv) : List D := [di v.tr, di v.op, db v.wa, db v.st]
end Go.Proofs.Ytkjibmfggeibjaa
/- Lineups of valves: Of, of both. -/
namespace Go.Proofs.Ytkjibmfggeibjaa
open Go
set_option linter.unusedVariables false
set_option linter.unusedSimpArgs false
set_option maxRecDepth 100000

end Go.Proofs.Ytkjibmfggeibjaa
/- Lineups: Permits, Shut, comparisons; all of them agree. -/
namespace Go.Proofs.Ytkjibmfggeibjaa
open Go
set_option linter.unusedVariables false
set_option linter.unusedSimpArgs false
set_option maxRecDepth 100000

end Go.Proofs.Ytkjibmfggeibjaa
/- Valves and plans out of a source, where one thing is off. -/
namespace Go.Proofs.Ytkjibmfggeibjaa
open Go
set_option linter.unusedVariables false
set_option linter.unusedSimpArgs false
set_option maxRecDepth 100000

structure OffPre (p : Pln) : Prop where
  rates : p.rates.length ≤ 1000
  ports : p.ports.length ≤ 1000
  pumps : p.pumps.length ≤ 1000
set_option maxHeartbeats 16000000 in
theorem off_c (p : Pln) (h : OffPre p) : SrcC Try.prog 35 [p.enc] PlnSz Pln.enc := by
  intro i L at' nn ho
  obtain ⟨code, h1, h2⟩ := c35_ok
  refine callsA_of T2_ok mixed (N := fun t => (i.1 + 1, t)) Try.func35 h1 h2 r35_ok [i] false js_one js_one' (by simp [Try.f35]) ?_
  have hr := h.rates
  have hq := h.ports
  have hu := h.pumps
  have e1 : ∀ A : List Int, (∀ j ∈ A, (iRow j).length = 1) = True := fun _ => eq_true fun _ _ => rfl
  have e2 : ∀ A : List Bool, (∀ j ∈ A, (bRow j).length = 1) = True := fun _ => eq_true fun _ _ => rfl
  have y1 : p.rates.length * 8 ≤ 140737488355328 := by omega
  have y2 : p.rates.length ≤ 4611686018427387904 := by omega
  have y3 : p.ports.length * 8 ≤ 140737488355328 := by omega
  have y4 : p.ports.length ≤ 4611686018427387904 := by omega
  have y5 : p.pumps.length * 1 ≤ 140737488355328 := by omega
  have y6 : p.pumps.length ≤ 4611686018427387904 := by omega
  have hi5 : InI 5 := by unfold InI; omega
  simp (config := { maxSteps := 500000 }) only [↓vp, vv, implies_true, forall_const, undef, InI, ↓reduceIte, simprocAttr, c35, T2, T1, selPick, selI, Pln.enc, plnD, ho, e1, e2, y1, y2, y3, y4, y5, y6, hi5]
  intro a1 x hx
  have o1 := a1.2
  have pI : ∀ A : List Int, (∀ j ∈ A, ∀ d ∈ iRow j, d.plain = true) = True := fun _ => eq_true fun _ _ d hd => by rw [List.mem_singleton.1 hd]; rfl
  have pB : ∀ A : List Bool, (∀ j ∈ A, ∀ d ∈ bRow j, d.plain = true) = True := fun _ => eq_true fun _ _ d hd => by rw [List.mem_singleton.1 hd]; rfl
  have tI : ∀ A : List Int, (A.map iRow).take A.length = A.map iRow := fun A => List.take_of_length_le (by simp)
  have tB : ∀ A : List Bool, (A.map bRow).take A.length = A.map bRow := fun A => List.take_of_length_le (by simp)
  cases c0 : (x == 0) with
  | true =>
    have z1 : (p.pumps.length + 1) * 1 ≤ 140737488355328 := by omega
    have z2 : p.pumps.length + 1 ≤ 4611686018427387904 := by omega
    simp (config := { maxSteps := 500000 }) only [↓vp, vv, implies_true, forall_const, undef, InI, ↓reduceIte, simprocAttr, c35_1, r35, c0, z1, z2, pI, pB, tI, tB]
    exact ⟨by omega, a1.1, ⟨p.rates, p.ports, p.pumps ++ [true]⟩, o1, ⟨by dsimp only; omega, by dsimp only; omega, by simp; omega⟩, by simp [Pln.enc, plnD, bRow], rfl⟩
  | false =>
    cases c1 : (x == 1) with
    | true =>
      have wq : IntKind.i64.wrap ((p.ports.length : Int) + 1) = (p.ports.length : Int) + 1 := wrap_i (by omega)
      have hiq : InI ((p.ports.length : Int) + 1) := by unfold InI; omega
      simp (config := { maxSteps := 500000 }) only [↓vp, vv, implies_true, forall_const, undef, InI, ↓reduceIte, simprocAttr, c35_1, r35, T2, T1, selPick, selI, c0, c1, o1, wq, hiq]
      intro a2 y hy
      have hy0 := hy.1
      have hy1 := hy.2.1 (by omega)
      have hy2 : y.toNat ≤ p.ports.length := by omega
      have hy3 : y ≤ (p.ports.length : Int) := by omega
      have tk : (p.ports.map iRow).take y.toNat = (p.ports.take y.toNat).map iRow := by rw [List.map_take]
      simp (config := { maxSteps := 500000 }) only [↓vp, vv, implies_true, forall_const, undef, InI, ↓reduceIte, simprocAttr, hy0, hy2, hy3, tk, pI, pB, tI, tB, Nat.sub_zero, List.drop_zero]
      exact ⟨a2.1, ⟨p.rates, p.ports.take y.toNat, p.pumps⟩, a2.2, ⟨by dsimp only; omega, by dsimp only; rw [List.length_take]; omega, by dsimp only; omega⟩, rfl, rfl⟩
    | false =>
      cases c2 : (x == 2) with
      | true =>
        by_cases c3 : (0 : Int) < p.ports.length
        · have hlen : 1 ≤ p.ports.length := by omega
          have hiq : InI (p.ports.length : Int) := by unfold InI; omega
          simp (config := { maxSteps := 500000 }) only [↓vp, vv, implies_true, forall_const, undef, InI, ↓reduceIte, simprocAttr, c35_1, r35, T2, T1, selPick, selI, c0, c1, c2, c3, o1, hiq]
          intro a2 y hy
          have hy0 := hy.1
          have hy1 := hy.2.1 (by omega)
          have hy2 : y.toNat < p.ports.length := by omega
          have o2 := a2.2
          have hp : intsOf [[di 1], [di (-1)], [di 1001], [di (-4611686018427387904)]] = some [1, -1, 1001, -4611686018427387904] := rfl
          have g : (p.ports.map iRow).getD y.toNat [] = [di p.ports[y.toNat]] := iRow_at p.ports y.toNat hy2
          have eS : ∀ v, (p.ports.map iRow).set y.toNat [di v] = (p.ports.set y.toNat v).map iRow := fun v => (List.map_set ..).symm
          have ls : ∀ v, (p.ports.set y.toNat v).length = p.ports.length := fun v => List.length_set
          have tk : ∀ v, ((p.ports.set y.toNat v).map iRow).take p.ports.length = (p.ports.set y.toNat v).map iRow := fun v => List.take_of_length_le (by simp)
          simp (config := { maxSteps := 500000 }) only [↓vp, vv, implies_true, forall_const, undef, InI, ↓reduceIte, simprocAttr, T2, T1, selPick, selI, hy0, hy1, hy2, o2, hp, g, eS, ls, tk, pI, pB, tI, tB]
          exact fun a3 z hz => ⟨a3.1, ⟨p.rates, p.ports.set y.toNat (IntKind.i64.wrap (p.ports[y.toNat] + z)), p.pumps⟩, a3.2, ⟨by dsimp only; (try rw [List.length_set]); omega, by dsimp only; (try rw [List.length_set]); omega, by dsimp only; omega⟩, rfl, rfl⟩
        · simp (config := { maxSteps := 500000 }) only [↓vp, vv, implies_true, forall_const, undef, InI, ↓reduceIte, simprocAttr, c35_1, r35, T2, T1, selPick, selI, c0, c1, c2, c3, o1, pI, pB, tI, tB]
          exact ⟨a1.1, p, o1, ⟨by omega, by omega, by omega⟩, rfl, rfl⟩
      | false =>
        by_cases c3 : (0 : Int) < p.rates.length
        · have hlen : 1 ≤ p.rates.length := by omega
          have hiq : InI (p.rates.length : Int) := by unfold InI; omega
          simp (config := { maxSteps := 500000 }) only [↓vp, vv, implies_true, forall_const, undef, InI, ↓reduceIte, simprocAttr, c35_1, r35, T2, T1, selPick, selI, c0, c1, c2, c3, o1, hiq]
          intro a2 y hy
          have hy0 := hy.1
          have hy1 := hy.2.1 (by omega)
          have hy2 : y.toNat < p.rates.length := by omega
          have o2 := a2.2
          have hp : intsOf [[di 1], [di (-1)], [di 5], [di 1001], [di 4611686018427387904], [di (-4611686018427387904)]] = some [1, -1, 5, 1001, 4611686018427387904, -4611686018427387904] := rfl
          have g : (p.rates.map iRow).getD y.toNat [] = [di p.rates[y.toNat]] := iRow_at p.rates y.toNat hy2
          have eS : ∀ v, (p.rates.map iRow).set y.toNat [di v] = (p.rates.set y.toNat v).map iRow := fun v => (List.map_set ..).symm
          have ls : ∀ v, (p.rates.set y.toNat v).length = p.rates.length := fun v => List.length_set
          have tk : ∀ v, ((p.rates.set y.toNat v).map iRow).take p.rates.length = (p.rates.set y.toNat v).map iRow := fun v => List.take_of_length_le (by simp)
          simp (config := { maxSteps := 500000 }) only [↓vp, vv, implies_true, forall_const, undef, InI, ↓reduceIte, simprocAttr, T2, T1, selPick, selI, hy0, hy1, hy2, o2, hp, g, eS, ls, tk, pI, pB, tI, tB]
          exact fun a3 z hz => ⟨a3.1, ⟨p.rates.set y.toNat (IntKind.i64.wrap (p.rates[y.toNat] + z)), p.ports, p.pumps⟩, a3.2, ⟨by dsimp only; (try rw [List.length_set]); omega, by dsimp only; (try rw [List.length_set]); omega, by dsimp only; omega⟩, rfl, rfl⟩
        · simp (config := { maxSteps := 500000 }) only [↓vp, vv, implies_true, forall_const, undef, InI, ↓reduceIte, simprocAttr, c35_1, r35, T2, T1, selPick, selI, c0, c1, c2, c3, o1, pI, pB, tI, tB]
          exact ⟨a1.1, p, o1, ⟨by omega, by omega, by omega⟩, rfl, rfl⟩
end Go.Proofs.Ytkjibmfggeibjaa
