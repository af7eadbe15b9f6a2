/- ToolStays: Nk5 Nk6 Nk7 CmL CodeCM CmB CmC CmP CmF CodeCT CtA CtB CodePK Pk2 GFd CtC CtD Pk3 Pk4. -/
import Derived.Test.YtadjhfjiimgddaaKw8
import Derived.Test.YtadjhfjiimgddaaKw7
import Derived.Test.YtadjhfjiimgddaaKw3
import Derived.Test.YtadjhfjiimgddaaProg
import Derived.Test.YtadjhfjiimgddaaKw5
import Derived.Test.YtadjhfjiimgddaaKw4
set_option linter.unusedSimpArgs false
set_option linter.unusedVariables false
set_option maxRecDepth 100000

/- Networks: known indices; segments in their ranges. -/
namespace Go.Proofs.Ytadjhfjiimgddaa
open Go
def iRow (k : Int) : List D := [di k]
def unk (n : Net) (k : Int) : Bool := if decide (k < 0) = true then true else decide ((n.nodes.length : Int) ≤ k)
def endsOf (s : Seg) : List Int := [s.fr, s.to]
def allIx (n : Net) : List Int := (n.segs.flatMap endsOf ++ n.ports.map (·.node)) ++ n.sts.map (·.node)
def knB (n : Net) : Bool := !((allIx n).any (unk n))
set_option maxHeartbeats 4000000 in
theorem kn1_c (n : Net) (k : Int) (nn : Nm) : CallsA Try.prog 165 [di k, .ip (netD n)] Hp.none nn (Pu (db (unk n k)) Hp.none) := by
 obtain ⟨code, h1, h2⟩ := c165_ok
 refine callsA_of (T0_ok _) mixed (N := fun t => (0, t)) Try.func165 h1 h2 r165_ok [] false js_nil js_nil' (by simp [Try.f165]) ?_
 cases a1 : decide (k < 0) <;> simp (maxSteps:=500000) only [↓vp, vv, ↓reduceIte, simprocAttr, c165, r165, netD, a1, unk, Pu]
def intOf1 : List D → Option Int
 | [.v (.int .i64 k)] => some k
 | _ => Option.none
def TK (P : Program) (n : Net) : Tbl := tc 145 (rowPu (selQ P false 1 (fun g l => qRow intOf1 (unk n)) outC)) T0
theorem TK_ok (n : Net) : TblOk Try.prog (TK Try.prog n) := by
 refine tc_pu f145_ok (fun args pre d h hp nn => ?_) (T0_ok _)
 unfold selQ at h
 split at h
 ·split at h
  ·rename_i hi
   cases h
   rw [ipsOf_eq hi]
   exact hasF_I _ _ _ _ hp nn
  ·cases h
 ·cases h
def KnHp (n : Net) (g : Nat) (l : List Int) : Hp := (Hp.none.put (0, 1000) ⟨g, 1, l.map iRow⟩).put (0, 1) ⟨0, 6, [netD n]⟩
theorem take_fm {α β : Type} (f : α → List β) {l : List α} {j : Nat} (h : j < l.length) : (l.take (j + 1)).flatMap f = (l.take j).flatMap f ++ f l[j] := by
 rw [← List.take_append_getElem h, List.flatMap_append]; simp
theorem take_mp {α β : Type} (f : α → β) {l : List α} {j : Nat} (h : j < l.length) : (l.take (j + 1)).map f = (l.take j).map f ++ [f l[j]] := by
 rw [← List.take_append_getElem h, List.map_append]; rfl
set_option maxHeartbeats 8000000 in
theorem known_c (n : Net) (hz : NetSz n) (nn : Nm) : CallsA Try.prog 137 [n.enc] Hp.none nn (Pu (db (knB n)) Hp.none) := by
 obtain ⟨code, h1, h2⟩ := c137_ok
 refine callsA_of (TK_ok n) mixed (N := fun t => (0, t)) Try.func137 h1 h2 r137_ok [] false js_nil js_nil' (by simp [Try.f137]) ?_
 obtain ⟨hz0, hz1, hz2, hz3, _⟩ := hz
 simp (maxSteps:=500000) only [↓vp, vv, ↓reduceIte, simprocAttr, c137, Net.enc]
 rw [vc_loop]
 refine ⟨fun m s => ∃ (j g : Nat), j + m = n.segs.length ∧ s = ⟨fr [(1, .ptr (0, 1) 0 0 0), (3, .own (0, 1000) g 0 ((n.segs.take j).flatMap endsOf).length), (11, .sl (n.segs.map Seg.row)), (12, di n.segs.length), (13, di j)], KnHp n g ((n.segs.take j).flatMap endsOf)⟩, ⟨n.segs.length, _, (weak_own 3 (0, 1000) 1 (by simp only [↓vp, vv, ↓reduceIte, simprocAttr, ]) (by simp only [↓vp, vv, ↓reduceIte, simprocAttr, ])).trans (weak_eq [] [(0, 1), (0, 1000)] [(1, .ptr (0, 1) 0 0 0), (3, .own (0, 1000) 0 0 (([] : List Int)).length), (11, .sl (n.segs.map Seg.row)), (12, di n.segs.length), (13, di 0)] (by simp only [↓vp, vv, ↓reduceIte, simprocAttr, coverS]) (by simp only [↓vp, vv, ↓reduceIte, simprocAttr, refsF]) (by simp only [↓vp, vv, ↓reduceIte, simprocAttr, netD, iRow, KnHp]) (by simp) (by simp only [↓vp, vv, ↓reduceIte, simprocAttr, netD, iRow, KnHp]; try rfl)), 0, 0, by omega, by simp [KnHp, netD]⟩, ?_⟩
 rintro m s ⟨j, g1, hj, rfl⟩
 by_cases hlt : j < n.segs.length
 ·have hlt' : (j : Int) < n.segs.length := by omega
  have hn := idx_nn j
  have hg := getD_map Seg.row n.segs j hlt
  have w1 := idx_next (j := j) (by omega)
  have htk := take_fm endsOf hlt
  generalize n.segs[j] = x at hg htk
  have hlen : ((n.segs.take j).flatMap endsOf).length ≤ 10000000 := by
   simp only [List.length_append, List.length_map, List.length_flatMap, endsOf, List.length_cons, List.length_nil, List.map_const', List.sum_replicate_nat, List.length_take]
   omega
  have hnew : (n.segs.take (j + 1)).flatMap endsOf = (n.segs.take j).flatMap endsOf ++ endsOf x := by rw [htk]
  generalize (n.segs.take j).flatMap endsOf = K at hlen hnew
  simp (maxSteps:=500000) only [↓vp, vv, ↓reduceIte, simprocAttr, c137_2, c137_1, KnHp, netD, iRow, hlt', hn, Int.toNat_natCast, hg, Seg.row, w1]
  refine ⟨⟨by omega, by omega⟩, m - 1, _, by omega, weak_eq [] [(0, 1), (0, 1000)] [(1, .ptr (0, 1) 0 0 0), (3, .own (0, 1000) (g1 + 1) 0 (K.length + 2)), (11, .sl (n.segs.map Seg.row)), (12, di n.segs.length), (13, di (j + 1 : Nat))] (by simp only [↓vp, vv, ↓reduceIte, simprocAttr, coverS, Seg.row, w1]) (by simp only [↓vp, vv, ↓reduceIte, simprocAttr, refsF]) (by simp only [↓vp, vv, ↓reduceIte, simprocAttr, netD, iRow]) (by simp) (by simp only [↓vp, vv, ↓reduceIte, simprocAttr, netD, iRow]; try rfl), j + 1, g1 + 1, by omega, ?_⟩
  have hnl := congrArg List.length hnew
  simp [endsOf] at hnl
  simp only [hnew]
  simp [KnHp, netD, iRow, endsOf, hnl]
 ·have hlt' : ¬ (j : Int) < n.segs.length := by omega
  obtain rfl : j = n.segs.length := by omega
  simp only [List.take_length]
  simp (maxSteps:=500000) only [↓vp, vv, ↓reduceIte, simprocAttr, c137_2, c137_9, KnHp, netD, hlt', Int.lt_irrefl]
  rw [vc_loop]
  refine ⟨fun m s => ∃ (j g : Nat), j + m = n.ports.length ∧ s = ⟨fr [(1, .ptr (0, 1) 0 0 0), (3, .own (0, 1000) g 0 (n.segs.flatMap endsOf ++ (n.ports.take j).map (·.node)).length), (26, .sl (n.ports.map Port.row)), (27, di n.ports.length), (28, di j)], KnHp n g (n.segs.flatMap endsOf ++ (n.ports.take j).map (·.node))⟩, ⟨n.ports.length, _, (weak_eq [] [(0, 1), (0, 1000)] [(1, .ptr (0, 1) 0 0 0), (3, .own (0, 1000) g1 0 (n.segs.flatMap endsOf).length), (26, .sl (n.ports.map Port.row)), (27, di n.ports.length), (28, di 0)] (by simp only [↓vp, vv, ↓reduceIte, simprocAttr, coverS]) (by simp only [↓vp, vv, ↓reduceIte, simprocAttr, refsF]) (by simp only [↓vp, vv, ↓reduceIte, simprocAttr, netD, iRow, KnHp]) (by simp) (by simp only [↓vp, vv, ↓reduceIte, simprocAttr, netD, iRow, KnHp]; try rfl)), 0, g1, by omega, by simp [KnHp, netD, iRow]⟩, ?_⟩
  rintro m s ⟨j, g2, hj, rfl⟩
  by_cases hlt : j < n.ports.length
  ·have hlt' : (j : Int) < n.ports.length := by omega
   have hn := idx_nn j
   have hg := getD_map Port.row n.ports j hlt
   have w1 := idx_next (j := j) (by omega)
   have htk := take_mp (fun p : Port => p.node) hlt
   generalize n.ports[j] = x at hg htk
   have hlen : (n.segs.flatMap endsOf ++ (n.ports.take j).map (·.node)).length ≤ 10000000 := by
    simp only [List.length_append, List.length_map, List.length_flatMap, endsOf, List.length_cons, List.length_nil, List.map_const', List.sum_replicate_nat, List.length_take]
    omega
   have hnew : n.segs.flatMap endsOf ++ (n.ports.take (j + 1)).map (·.node) = n.segs.flatMap endsOf ++ (n.ports.take j).map (·.node) ++ [x.node] := by rw [htk]; simp
   generalize n.segs.flatMap endsOf ++ (n.ports.take j).map (·.node) = K at hlen hnew
   simp (maxSteps:=500000) only [↓vp, vv, ↓reduceIte, simprocAttr, c137_4, c137_3, KnHp, netD, iRow, hlt', hn, Int.toNat_natCast, hg, Port.row, w1]
   refine ⟨⟨by omega, by omega⟩, m - 1, _, by omega, weak_eq [] [(0, 1), (0, 1000)] [(1, .ptr (0, 1) 0 0 0), (3, .own (0, 1000) (g2 + 1) 0 (K.length + 1)), (26, .sl (n.ports.map Port.row)), (27, di n.ports.length), (28, di (j + 1 : Nat))] (by simp only [↓vp, vv, ↓reduceIte, simprocAttr, coverS, Port.row, w1]) (by simp only [↓vp, vv, ↓reduceIte, simprocAttr, refsF]) (by simp only [↓vp, vv, ↓reduceIte, simprocAttr, netD, iRow]) (by simp) (by simp only [↓vp, vv, ↓reduceIte, simprocAttr, netD, iRow]; try rfl), j + 1, g2 + 1, by omega, ?_⟩
   have hnl := congrArg List.length hnew
   simp [endsOf] at hnl
   simp only [hnew]
   simp [KnHp, netD, iRow, endsOf, hnl]
  ·have hlt' : ¬ (j : Int) < n.ports.length := by omega
   obtain rfl : j = n.ports.length := by omega
   simp only [List.take_length]
   simp (maxSteps:=500000) only [↓vp, vv, ↓reduceIte, simprocAttr, c137_4, c137_8, KnHp, netD, hlt', Int.lt_irrefl]
   rw [vc_loop]
   refine ⟨fun m s => ∃ (j g : Nat), j + m = n.sts.length ∧ s = ⟨fr [(1, .ptr (0, 1) 0 0 0), (3, .own (0, 1000) g 0 ((n.segs.flatMap endsOf ++ n.ports.map (·.node)) ++ (n.sts.take j).map (·.node)).length), (39, .sl (n.sts.map Stn.row)), (40, di n.sts.length), (41, di j)], KnHp n g ((n.segs.flatMap endsOf ++ n.ports.map (·.node)) ++ (n.sts.take j).map (·.node))⟩, ⟨n.sts.length, _, (weak_eq [] [(0, 1), (0, 1000)] [(1, .ptr (0, 1) 0 0 0), (3, .own (0, 1000) g2 0 (n.segs.flatMap endsOf ++ n.ports.map (·.node)).length), (39, .sl (n.sts.map Stn.row)), (40, di n.sts.length), (41, di 0)] (by simp only [↓vp, vv, ↓reduceIte, simprocAttr, coverS]) (by simp only [↓vp, vv, ↓reduceIte, simprocAttr, refsF]) (by simp only [↓vp, vv, ↓reduceIte, simprocAttr, netD, iRow, KnHp]) (by simp) (by simp only [↓vp, vv, ↓reduceIte, simprocAttr, netD, iRow, KnHp]; try rfl)), 0, g2, by omega, by simp [KnHp, netD, iRow]⟩, ?_⟩
   rintro m s ⟨j, g3, hj, rfl⟩
   by_cases hlt : j < n.sts.length
   ·have hlt' : (j : Int) < n.sts.length := by omega
    have hn := idx_nn j
    have hg := getD_map Stn.row n.sts j hlt
    have w1 := idx_next (j := j) (by omega)
    have htk := take_mp (fun p : Stn => p.node) hlt
    generalize n.sts[j] = x at hg htk
    have hlen : ((n.segs.flatMap endsOf ++ n.ports.map (·.node)) ++ (n.sts.take j).map (·.node)).length ≤ 10000000 := by
     simp only [List.length_append, List.length_map, List.length_flatMap, endsOf, List.length_cons, List.length_nil, List.map_const', List.sum_replicate_nat, List.length_take]
     omega
    have hnew : (n.segs.flatMap endsOf ++ n.ports.map (·.node)) ++ (n.sts.take (j + 1)).map (·.node) = (n.segs.flatMap endsOf ++ n.ports.map (·.node)) ++ (n.sts.take j).map (·.node) ++ [x.node] := by rw [htk]; simp
    generalize (n.segs.flatMap endsOf ++ n.ports.map (·.node)) ++ (n.sts.take j).map (·.node) = K at hlen hnew
    simp (maxSteps:=500000) only [↓vp, vv, ↓reduceIte, simprocAttr, c137_6, c137_5, KnHp, netD, iRow, hlt', hn, Int.toNat_natCast, hg, Stn.row, w1]
    refine ⟨⟨by omega, by omega⟩, m - 1, _, by omega, weak_eq [] [(0, 1), (0, 1000)] [(1, .ptr (0, 1) 0 0 0), (3, .own (0, 1000) (g3 + 1) 0 (K.length + 1)), (39, .sl (n.sts.map Stn.row)), (40, di n.sts.length), (41, di (j + 1 : Nat))] (by simp only [↓vp, vv, ↓reduceIte, simprocAttr, coverS, Stn.row, w1]) (by simp only [↓vp, vv, ↓reduceIte, simprocAttr, refsF]) (by simp only [↓vp, vv, ↓reduceIte, simprocAttr, netD, iRow]) (by simp) (by simp only [↓vp, vv, ↓reduceIte, simprocAttr, netD, iRow]; try rfl), j + 1, g3 + 1, by omega, ?_⟩
    have hnl := congrArg List.length hnew
    simp [endsOf] at hnl
    simp only [hnew]
    simp [KnHp, netD, iRow, endsOf, Nat.add_assoc, hnl]
   ·have hlt' : ¬ (j : Int) < n.sts.length := by omega
    obtain rfl : j = n.sts.length := by omega
    simp only [List.take_length]
    have hq : QOk Try.prog false 1 (qRow intOf1 (unk n)) 165 [netD n] ((allIx n).map iRow) := by
     refine ⟨f165_ok, ?_, fun r hr => ?_⟩
     ·simp only [allIx, List.length_append, List.length_map, List.length_flatMap, endsOf, List.length_cons, List.length_nil, List.map_const', List.sum_replicate_nat]
      omega
     ·obtain ⟨x, _, rfl⟩ := List.mem_map.1 hr
      exact ⟨rfl, rfl, fun _ => ⟨_, rfl⟩, fun nn => kn1_c n x nn⟩
    have ho : outC (fun r => qRow intOf1 (unk n) (elV false r)) ((allIx n).map iRow) = db ((allIx n).any (unk n)) := by
     unfold outC
     rw [List.any_map]
     rfl
    change vc _ _ _ _ _ ⟨fr [(1, .ptr (0, 1) 0 0 0), (3, .own (0, 1000) g3 0 (allIx n).length), (39, .sl (n.sts.map Stn.row)), (40, di n.sts.length), (41, di n.sts.length)], KnHp n g3 (allIx n)⟩
    simp (maxSteps:=500000) only [↓vp, vv, ↓reduceIte, simprocAttr, c137_6, KnHp, netD, hlt', Int.lt_irrefl]
    refine vc_wk ((weak_ip 1 (0, 1) 0 6 (netD n) (by simp only [↓vp, vv, ↓reduceIte, simprocAttr, ]) (by simp only [↓vp, vv, ↓reduceIte, simprocAttr, netD]) (by simp only [↓vp, vv, ↓reduceIte, simprocAttr, netD]) (by simp)).trans (weak_eq [(0, 1000)] [] [(1, .ip (netD n)), (3, .sl ((allIx n).map iRow))] (by simp only [↓vp, vv, ↓reduceIte, simprocAttr, coverS, iRow]) (by simp only [↓vp, vv, ↓reduceIte, simprocAttr, refsF]) (by simp only [↓vp, vv, ↓reduceIte, simprocAttr, ]) (by simp) (by simp only [↓vp, vv, ↓reduceIte, simprocAttr, ]; try rfl))) ?_
    simp (maxSteps:=500000) only [↓vp, vv, ↓reduceIte, simprocAttr, c137_7, r137, TK, selQ, ipsOf, hq, ho, knB, Pu]
def inB (a b c : Int) : Bool := if decide (b ≤ a) = true then decide (a ≤ c) else false
set_option maxHeartbeats 1000000 in
theorem in_c (a b c : Int) (nn : Nm) : CallsA Try.prog 170 [di a, di b, di c] Hp.none nn (Pu (db (inB a b c)) Hp.none) := by
 obtain ⟨code, h1, h2⟩ := c170_ok
 refine callsA_of (T0_ok _) mixed (N := fun t => (0, t)) Try.func170 h1 h2 r170_ok [] false js_nil js_nil' (by simp [Try.f170]) ?_
 cases hb : decide (b ≤ a) <;> simp (maxSteps:=500000) only [↓vp, vv, ↓reduceIte, simprocAttr, c170, r170, hb, Pu, inB]
set_option maxHeartbeats 1000000 in
theorem rin_c (a b c : Int) (nn : Nm) : CallsA Try.prog 139 [di a, di b, di c] Hp.none nn (Pu (db (inB a b c)) Hp.none) := by
 obtain ⟨code, h1, h2⟩ := c139_ok
 refine callsA_of (T0_ok _) mixed (N := fun t => (0, t)) Try.func139 h1 h2 r139_ok [] false js_nil js_nil' (by simp [Try.f139]) ?_
 cases hb : decide (b ≤ a) <;> simp (maxSteps:=500000) only [↓vp, vv, ↓reduceIte, simprocAttr, c139, r139, hb, Pu, inB]
def selIn : List D → Option (Prop × D)
 | [.v (.int .i64 a), .v (.int .i64 b), .v (.int .i64 c)] => some (True, db (inB a b c))
 | _ => Option.none
def TI : Tbl := tc 170 (rowPu selIn) (tc 139 (rowPu selIn) T0)
theorem TI_ok : TblOk Try.prog TI := by
 refine tc_pu f170_ok (fun args pre d h hp nn => ?_) (tc_pu f139_ok (fun args pre d h hp nn => ?_) (T0_ok _))
 ·unfold selIn at h
  split at h <;> cases h
  exact in_c _ _ _ nn
 ·unfold selIn at h
  split at h <;> cases h
  exact rin_c _ _ _ nn
def ptBad (l : List Pt) (i : Nat) : Bool := match l[i]? with
 | some p => if inB p.height (-500) 5000 = true then (if inB p.limit 0 100000000 = true then (if 0 < i then decide (p.at' ≤ (l.getD (i - 1) ⟨0, 0, 0⟩).at') else false) else true) else true
 | Option.none => false
def pipeB (s : Seg) : Bool := if (s.fr == s.to) = true then false else if inB s.cap 1 1000000 = true then (if inB s.resist 0 1000 = true then (if inB s.wave 0 100000 = true then
  (if (List.range s.points.length).any (ptBad s.points) = true then false else if ((s.points.getD 0 ⟨0, 0, 0⟩).at' == 0) = true then (s.points.getD (s.points.length - 1) ⟨0, 0, 0⟩).at' == s.cap else false) else false) else false) else false
theorem pt_at {l : List Pt} {i : Nat} (h : i < l.length) : ptBad l i = if inB l[i].height (-500) 5000 = true then (if inB l[i].limit 0 100000000 = true then (if 0 < i then decide (l[i].at' ≤ (l.getD (i - 1) ⟨0, 0, 0⟩).at') else false) else true) else true := by
 unfold ptBad
 rw [List.getElem?_eq_getElem h]
theorem getD_lt {α : Type} {l : List α} {k : Nat} (h : k < l.length) (d : α) : l.getD k d = l[k] := by rw [List.getD_eq_getElem?_getD, List.getElem?_eq_getElem h]; rfl
set_option maxHeartbeats 8000000 in
theorem pipe_c (s : Seg) (hz : 1 ≤ s.points.length ∧ s.points.length ≤ 1000000) (nn : Nm) : CallsA Try.prog 167 [.agg s.row] Hp.none nn (Pu (db (pipeB s)) Hp.none) := by
 obtain ⟨code, h1, h2⟩ := c167_ok
 refine callsA_of TI_ok mixed (N := fun t => (0, t)) Try.func167 h1 h2 r167_ok [] false js_nil js_nil' (by simp [Try.f167]) ?_
 cases a1 : (s.fr == s.to) with
 | true => simp (maxSteps:=500000) only [↓vp, vv, ↓reduceIte, simprocAttr, c167, r167, c167_1, c167_2, c167_3, c167_4, c167_5, TI, selIn, Seg.row, a1, pipeB, Pu]
 | false =>
 cases a2 : inB s.cap 1 1000000 with
 | false => simp (maxSteps:=500000) only [↓vp, vv, ↓reduceIte, simprocAttr, c167, r167, c167_1, c167_2, c167_3, c167_4, c167_5, TI, selIn, Seg.row, a1, a2, pipeB, Pu]
 | true =>
 cases a3 : inB s.resist 0 1000 with
 | false => simp (maxSteps:=500000) only [↓vp, vv, ↓reduceIte, simprocAttr, c167, r167, c167_1, c167_2, c167_3, c167_4, c167_5, TI, selIn, Seg.row, a1, a2, a3, pipeB, Pu]
 | true =>
 cases a4 : inB s.wave 0 100000 with
 | false => simp (maxSteps:=500000) only [↓vp, vv, ↓reduceIte, simprocAttr, c167, r167, c167_1, c167_2, c167_3, c167_4, c167_5, TI, selIn, Seg.row, a1, a2, a3, a4, pipeB, Pu]
 | true =>
 generalize hb : (List.range s.points.length).any (ptBad s.points) = b
 have hp : pipeB s = if b = true then false else if ((s.points.getD 0 ⟨0, 0, 0⟩).at' == 0) = true then (s.points.getD (s.points.length - 1) ⟨0, 0, 0⟩).at' == s.cap else false := by unfold pipeB; rw [a1, a2, a3, a4, hb]; rfl
 simp (maxSteps:=500000) only [↓vp, vv, ↓reduceIte, simprocAttr, c167, c167_5, TI, selIn, Seg.row, a1, a2, a3, a4]
 refine rng_loop s.points.length (fun j => ⟨fr [(1, .ptr (0, 1) 0 0 0), (29, .sl (s.points.map Pt.row)), (30, di s.points.length), (31, di j)], Hp.none.put (0, 1) ⟨0, 7, [s.row]⟩⟩) (fun j => ((List.range s.points.length).drop j).any (ptBad s.points) = b) (weak1 (by simp only [↓vp, vv, ↓reduceIte, simprocAttr, coverS]) (by simp only [↓vp, vv, ↓reduceIte, simprocAttr, refsF]) (by simp only [↓vp, vv, ↓reduceIte, simprocAttr, Seg.row]) (by simp only [↓vp, vv, ↓reduceIte, simprocAttr, ])) hb (fun j hj he => ?_) (fun he => ?_)
 ·have hj' : (j : Int) < s.points.length := by omega
  have hn := idx_nn j
  have w1 := idx_next (j := j) (by omega)
  have hjl : j < (List.range s.points.length).length := by simpa using hj
  obtain ⟨hf, ht⟩ := drop_any hjl he
  rw [range_at, pt_at hj] at hf ht
  have hg := getD_map Pt.row s.points j hj
  have hpr : 0 < j → (s.points.map Pt.row).getD (j - 1) [] = (s.points.getD (j - 1) ⟨0, 0, 0⟩).row := fun h => by
   have h' : j - 1 < s.points.length := by omega
   rw [getD_map Pt.row s.points (j - 1) h', getD_lt h']
  generalize s.points[j] = x at hf ht hg
  generalize s.points.getD (j - 1) ⟨0, 0, 0⟩ = y at hf ht hpr
  have bad : b = true → pipeB s = false := fun h => by rw [hp, h]; rfl
  cases b1 : inB x.height (-500) 5000 with
  | false =>
   have e1 := bad (hf (by rw [b1]; rfl))
   simp (maxSteps:=500000) only [↓vp, vv, ↓reduceIte, simprocAttr, c167, r167, c167_1, c167_2, c167_3, c167_4, c167_5, TI, selIn, hj', hn, Int.toNat_natCast, hg, Pt.row, b1, e1, Pu]
  | true =>
  cases b2 : inB x.limit 0 100000000 with
  | false =>
   have e1 := bad (hf (by rw [b1, b2]; rfl))
   simp (maxSteps:=500000) only [↓vp, vv, ↓reduceIte, simprocAttr, c167, r167, c167_1, c167_2, c167_3, c167_4, c167_5, TI, selIn, hj', hn, Int.toNat_natCast, hg, Pt.row, b1, b2, e1, Pu]
  | true =>
  by_cases b3 : 0 < j
  ·have b3' : (0 : Int) < j := by omega
   have w2 : IntKind.i64.wrap ((j : Int) - 1) = ((j - 1 : Nat) : Int) := by rw [wrap_i (by omega)]; omega
   have hn2 := idx_nn (j - 1)
   have hj2 : ((j - 1 : Nat) : Int) < s.points.length := by omega
   have hpr' := hpr b3
   cases b4 : decide (x.at' ≤ y.at') with
   | true =>
    have e1 := bad (hf (by rw [b1, b2, b4]; simp [b3]))
    simp (maxSteps:=500000) only [↓vp, vv, ↓reduceIte, simprocAttr, c167, r167, c167_1, c167_2, c167_3, c167_4, c167_5, TI, selIn, hj', hn, Int.toNat_natCast, hg, Seg.row, Pt.row, b1, b2, b3', w2, hn2, hj2, hpr', b4, e1, Pu]
   | false =>
    simp (maxSteps:=500000) only [↓vp, vv, ↓reduceIte, simprocAttr, c167, r167, c167_1, c167_2, c167_3, c167_4, c167_5, TI, selIn, hj', hn, Int.toNat_natCast, hg, Seg.row, Pt.row, b1, b2, b3', w2, hn2, hj2, hpr', b4, w1]
    exact rng_next hj (weak1 (by simp only [↓vp, vv, ↓reduceIte, simprocAttr, coverS, Pt.row, w1]) (by simp only [↓vp, vv, ↓reduceIte, simprocAttr, refsF]) (by simp only [↓vp, vv, ↓reduceIte, simprocAttr, Seg.row]) (by simp only [↓vp, vv, ↓reduceIte, simprocAttr, ])) (ht (by rw [b1, b2, b4]; simp))
  ·have b3' : ¬ (0 : Int) < j := by omega
   simp (maxSteps:=500000) only [↓vp, vv, ↓reduceIte, simprocAttr, c167, r167, c167_1, c167_2, c167_3, c167_4, c167_5, TI, selIn, hj', hn, Int.toNat_natCast, hg, Seg.row, Pt.row, b1, b2, b3', w1, decide_false]
   exact rng_next hj (weak1 (by simp only [↓vp, vv, ↓reduceIte, simprocAttr, coverS, Pt.row, w1]) (by simp only [↓vp, vv, ↓reduceIte, simprocAttr, refsF]) (by simp only [↓vp, vv, ↓reduceIte, simprocAttr, Seg.row]) (by simp only [↓vp, vv, ↓reduceIte, simprocAttr, ])) (ht (by rw [b1, b2]; simp [b3]))
 ·have e1 : b = false := drop_any_end (by simp) he
  rw [e1] at hp
  simp only [Bool.false_eq_true, if_false] at hp
  have h0 : (s.points.map Pt.row).getD 0 [] = (s.points.getD 0 ⟨0, 0, 0⟩).row := by rw [getD_map Pt.row s.points 0 (by omega), getD_lt (by omega)]
  have h9 : (s.points.map Pt.row).getD (s.points.length - 1) [] = (s.points.getD (s.points.length - 1) ⟨0, 0, 0⟩).row := by rw [getD_map Pt.row s.points (s.points.length - 1) (by omega), getD_lt (by omega)]
  generalize s.points.getD 0 ⟨0, 0, 0⟩ = x at hp h0
  generalize s.points.getD (s.points.length - 1) ⟨0, 0, 0⟩ = y at hp h9
  have w2 : IntKind.i64.wrap ((s.points.length : Int) - 1) = ((s.points.length - 1 : Nat) : Int) := by rw [wrap_i (by omega)]; omega
  have hn2 := idx_nn (s.points.length - 1)
  have hj2 : ((s.points.length - 1 : Nat) : Int) < s.points.length := by omega
  have hj0 : (0 : Int) < s.points.length := by omega
  have hlt' : ¬ (s.points.length : Int) < s.points.length := by omega
  cases b1 : (x.at' == 0) with
  | false =>
   rw [b1] at hp
   simp (maxSteps:=500000) only [↓vp, vv, ↓reduceIte, simprocAttr, c167, r167, c167_1, c167_2, c167_3, c167_4, c167_5, TI, selIn, Seg.row, Pt.row, Int.lt_irrefl, hj0, h0, b1, hp, Pu]
  | true =>
   rw [b1, if_pos rfl] at hp
   simp (maxSteps:=500000) only [↓vp, vv, ↓reduceIte, simprocAttr, c167, r167, c167_1, c167_2, c167_3, c167_4, c167_5, TI, selIn, Seg.row, Pt.row, Int.lt_irrefl, Int.toNat_natCast, hj0, h0, h9, w2, hn2, hj2, b1, hp, Pu]
def portBad (p : Port) : Bool := !inB p.press 0 100000000
def stnBad (x : Stn) : Bool := if inB x.head 0 100000000 = true then (if inB x.fall 0 100000 = true then !inB x.suct 0 100000000 else true) else true
def segBad (s : Seg) : Bool := !pipeB s
def PtsPos (n : Net) : Prop := ∀ s ∈ n.segs, 1 ≤ s.points.length
def prB (n : Net) : Bool := if n.segs.any segBad = true then false else if n.ports.any portBad = true then false else if n.sts.any stnBad = true then false else if inB n.vap (-100000) 100000000 = true then inB n.set 0 100 else false
def selSegP (out : Seg → D) : List D → Option (Prop × D)
 | [.agg r] => match segOf1 r with
  | some s => some (1 ≤ s.points.length ∧ s.points.length ≤ 1000000, out s)
  | Option.none => Option.none
 | _ => Option.none
def TI2 : Tbl := tc 167 (rowPu (selSegP fun s => db (pipeB s))) TI
theorem TI2_ok : TblOk Try.prog TI2 := by
 refine tc_pu f167_ok (fun args pre d h hp nn => ?_) TI_ok
 unfold selSegP at h
 split at h
 ·split at h
  ·rename_i hm; cases h; rw [segOf1_eq hm]; exact pipe_c _ hp nn
  ·cases h
 ·cases h
set_option maxHeartbeats 2000000 in
theorem pr1_c (s : Seg) (hz : 1 ≤ s.points.length ∧ s.points.length ≤ 1000000) (nn : Nm) : CallsA Try.prog 166 [.agg s.row] Hp.none nn (Pu (db (segBad s)) Hp.none) := by
 obtain ⟨code, h1, h2⟩ := c166_ok
 refine callsA_of TI2_ok mixed (N := fun t => (0, t)) Try.func166 h1 h2 r166_ok [] false js_nil js_nil' (by simp [Try.f166]) ?_
 have hs : segOf1 [ds s.name, di s.fr, di s.to, di s.cap, di s.resist, di s.wave, .sl (s.points.map Pt.row)] = some s := segOf1_row s
 simp (maxSteps:=500000) only [↓vp, vv, ↓reduceIte, simprocAttr, c166, r166, TI2, selSegP, Seg.row, hs, hz, segBad, Pu]
set_option maxHeartbeats 2000000 in
theorem pr2_c (p : Port) (nn : Nm) : CallsA Try.prog 169 [.agg p.row] Hp.none nn (Pu (db (portBad p)) Hp.none) := by
 obtain ⟨code, h1, h2⟩ := c169_ok
 refine callsA_of TI_ok mixed (N := fun t => (0, t)) Try.func169 h1 h2 r169_ok [] false js_nil js_nil' (by simp [Try.f169]) ?_
 simp (maxSteps:=500000) only [↓vp, vv, ↓reduceIte, simprocAttr, c169, r169, TI, selIn, Port.row, portBad, Pu]
set_option maxHeartbeats 2000000 in
theorem pr3_c (x : Stn) (nn : Nm) : CallsA Try.prog 172 [.agg x.row] Hp.none nn (Pu (db (stnBad x)) Hp.none) := by
 obtain ⟨code, h1, h2⟩ := c172_ok
 refine callsA_of TI_ok mixed (N := fun t => (0, t)) Try.func172 h1 h2 r172_ok [] false js_nil js_nil' (by simp [Try.f172]) ?_
 cases a1 : inB x.head 0 100000000 with
 | false => simp (maxSteps:=500000) only [↓vp, vv, ↓reduceIte, simprocAttr, c172, r172, TI, selIn, Stn.row, stnBad, a1, Pu]
 | true =>
  cases a2 : inB x.fall 0 100000 with
  | false => simp (maxSteps:=500000) only [↓vp, vv, ↓reduceIte, simprocAttr, c172, r172, TI, selIn, Stn.row, stnBad, a1, a2, Pu]
  | true => simp (maxSteps:=500000) only [↓vp, vv, ↓reduceIte, simprocAttr, c172, r172, TI, selIn, Stn.row, stnBad, a1, a2, Pu]
def TPr (P : Program) : Tbl := tc 159 (rowPu (selQ P true 7 (fun g l => qRow segOf1 segBad) outC)) (tc 168 (rowPu (selQ P true 3 (fun g l => qRow portOf1 portBad) outC)) (tc 171 (rowPu (selQ P true 5 (fun g l => qRow stnOf1 stnBad) outC)) TI))
theorem tc_cf {P : Program} {ag : Bool} {sz : Nat} {f : FuncId} {q : FuncId → List (List D) → D → Bool} {T : Tbl} (hf : fnOk P f = true) (h : ∀ (q : D → Bool) (g : FuncId) (l rows : List (List D)), QOk P ag sz q g l rows → ∀ nn, CallsA P f [.sl rows, .clo g [] (ips l)] Hp.none nn (Pu (outC (fun r => q (elV ag r)) rows) Hp.none)) (hT : TblOk P T) : TblOk P (tc f (rowPu (selQ P ag sz q outC)) T) :=
 tc_pu hf (fun args pre d hs hp nn => by
  unfold selQ at hs
  split at hs
  ·split at hs
   ·rename_i hi
    cases hs
    rw [ipsOf_eq hi]
    exact h _ _ _ _ hp nn
   ·cases hs
  ·cases hs) hT
theorem TPr_ok : TblOk Try.prog (TPr Try.prog) := tc_cf f159_ok (fun q g l rows h nn => hasF_G q g l rows h nn) (tc_cf f168_ok (fun q g l rows h nn => hasF_P q g l rows h nn) (tc_cf f171_ok (fun q g l rows h nn => hasF_N q g l rows h nn) TI_ok))
theorem outC_rows {α : Type} (f : List D → Option α) (g : α → List D) (q : α → Bool) (h : ∀ x, f (g x) = some x) (l : List α) : outC (fun r => qRow f q (elV true r)) (l.map g) = db (l.any q) := by
 have e : ((fun r => qRow f q (elV true r)) ∘ g) = q := funext fun x => qRow_agg (h x)
 unfold outC
 rw [List.any_map, e]
set_option maxHeartbeats 4000000 in
theorem proper_c (n : Net) (hz : NetSz n) (hp : PtsPos n) (nn : Nm) : CallsA Try.prog 138 [n.enc] Hp.none nn (Pu (db (prB n)) Hp.none) := by
 obtain ⟨code, h1, h2⟩ := c138_ok
 refine callsA_of TPr_ok mixed (N := fun t => (0, t)) Try.func138 h1 h2 r138_ok [] false js_nil js_nil' (by simp [Try.f138]) ?_
 have q1 : QOk Try.prog true 7 (qRow segOf1 segBad) 166 [] (n.segs.map Seg.row) := by
  refine ⟨f166_ok, by simp; have := hz.segs; omega, fun r hr => ?_⟩
  obtain ⟨x, hx, rfl⟩ := List.mem_map.1 hr
  refine ⟨rfl, x.done, fun h => Bool.noConfusion h, fun nn => ?_⟩
  have := pr1_c x ⟨hp x hx, hz.pts x hx⟩ nn
  rw [← qRow_agg (q := segBad) (segOf1_row x)] at this
  exact this
 have q2 : QOk Try.prog true 3 (qRow portOf1 portBad) 169 [] (n.ports.map Port.row) := by
  refine ⟨f169_ok, by simp; have := hz.ports; omega, fun r hr => ?_⟩
  obtain ⟨x, _, rfl⟩ := List.mem_map.1 hr
  exact ⟨rfl, x.done, fun h => Bool.noConfusion h, fun nn => pr2_c x nn⟩
 have q3 : QOk Try.prog true 5 (qRow stnOf1 stnBad) 172 [] (n.sts.map Stn.row) := by
  refine ⟨f172_ok, by simp; have := hz.sts; omega, fun r hr => ?_⟩
  obtain ⟨x, _, rfl⟩ := List.mem_map.1 hr
  exact ⟨rfl, x.done, fun h => Bool.noConfusion h, fun nn => pr3_c x nn⟩
 have o1 := outC_rows segOf1 Seg.row segBad segOf1_row n.segs
 have o2 := outC_rows portOf1 Port.row portBad portOf1_row n.ports
 have o3 := outC_rows stnOf1 Stn.row stnBad stnOf1_row n.sts
 cases a1 : n.segs.any segBad with
 | true => rw [a1] at o1; simp (maxSteps:=500000) only [↓vp, vv, ↓reduceIte, simprocAttr, c138, r138, c138_1, c138_2, c138_3, TPr, TI, selQ, ipsOf, Net.enc, q1, o1, a1, prB, Pu]
 | false =>
 rw [a1] at o1
 cases a2 : n.ports.any portBad with
 | true => rw [a2] at o2; simp (maxSteps:=500000) only [↓vp, vv, ↓reduceIte, simprocAttr, c138, r138, c138_1, c138_2, c138_3, TPr, TI, selQ, ipsOf, Net.enc, q1, q2, o1, o2, a1, a2, prB, Pu]
 | false =>
 rw [a2] at o2
 cases a3 : n.sts.any stnBad with
 | true => rw [a3] at o3; simp (maxSteps:=500000) only [↓vp, vv, ↓reduceIte, simprocAttr, c138, r138, c138_1, c138_2, c138_3, TPr, TI, selQ, ipsOf, Net.enc, q1, q2, q3, o1, o2, o3, a1, a2, a3, prB, Pu]
 | false =>
 rw [a3] at o3
 cases a4 : inB n.vap (-100000) 100000000 with
 | false => simp (maxSteps:=500000) only [↓vp, vv, ↓reduceIte, simprocAttr, c138, r138, c138_1, c138_2, c138_3, TPr, TI, selIn, selQ, ipsOf, Net.enc, q1, q2, q3, o1, o2, o3, a1, a2, a3, a4, prB, Pu]
 | true => simp (maxSteps:=500000) only [↓vp, vv, ↓reduceIte, simprocAttr, c138, r138, c138_1, c138_2, c138_3, TPr, TI, selIn, selQ, ipsOf, Net.enc, q1, q2, q3, o1, o2, o3, a1, a2, a3, a4, prB, Pu]
def nmBad (s : ByteArray) : Bool := !nameB s
def selNm : List D → Option (Prop × D)
 | [.v (.string s)] => some (True, db (nameB s))
 | _ => Option.none
def TN1 : Tbl := tc 67 (rowPu selNm) (tc 68 (rowPu selNm) T0)
theorem TN1_ok : TblOk Try.prog TN1 := by
 refine tc_pu f67_ok (fun args pre d h hp nn => ?_) (tc_pu f68_ok (fun args pre d h hp nn => ?_) (T0_ok _))
 ·unfold selNm at h
  split at h <;> cases h
  exact lname_c _ nn
 ·unfold selNm at h
  split at h <;> cases h
  exact rname_c _ nn
theorem ck1_c (s : ByteArray) (nn : Nm) : CallsA Try.prog 135 [ds s] Hp.none nn (Pu (db (nmBad s)) Hp.none) := by
 obtain ⟨code, h1, h2⟩ := c135_ok
 refine callsA_of TN1_ok mixed (N := fun t => (0, t)) Try.func135 h1 h2 r135_ok [] false js_nil js_nil' (by simp [Try.f135]) ?_
 simp (maxSteps:=500000) only [↓vp, vv, ↓reduceIte, simprocAttr, c135, r135, TN1, selNm, nmBad, Pu]
def formBad (n : Net) : Bool := (nms4 n).any fun l => l.any nmBad
def checkI (n : Net) : Int := if limB n = true then (if formBad n = true then 3 else if twB n = true then 7 else if knB n = true then (if prB n = true then 0 else 9) else 8) else 4
def selNetP (out : Net → D) : List D → Option (Prop × D)
 | [.agg r] => match netOf1 r with
  | some n => some (NetSz n ∧ PtsPos n, out n)
  | Option.none => Option.none
 | _ => Option.none
def TC (P : Program) : Tbl := tc 132 (rowPu (selNet fun n => db (limB n))) (tc 133 (rowPu (selNet nmsD)) (tc 134 (rowPu (selQ P false 1 (fun g l => qRow nmOf1 nmBad) outC)) (tc 136 (rowPu (selNet fun n => db (twB n))) (tc 137 (rowPu (selNet fun n => db (knB n))) (tc 138 (rowPu (selNetP fun n => db (prB n))) T0)))))
theorem TC_ok : TblOk Try.prog (TC Try.prog) := by
 refine tc_netf f132_ok limits_c (tc_netf f133_ok (fun n hz nn => pnames_c n hz.segs hz.ports hz.sts nn) (tc_cf f134_ok (fun q g l rows h nn => hasF_S q g l rows h nn) (tc_netf f136_ok twice_c (tc_netf f137_ok known_c (tc_pu f138_ok (fun args pre d hs hp nn => ?_) (T0_ok _))))))
 unfold selNetP at hs
 split at hs
 ·split at hs
  ·rename_i n hn
   cases hs
   rw [netOf1_eq hn]
   exact proper_c _ hp.1 hp.2 nn
  ·cases hs
 ·cases hs
theorem lim_pts {n : Net} (h : limB n = true) : PtsPos n ∧ ∀ s ∈ n.segs, 2 ≤ s.points.length ∧ s.points.length ≤ 8 := by
 have h' : n.segs.any ptsBad = false := by
  unfold limB at h
  repeat (split at h; · cases h)
  simpa using h
 have k : ∀ s ∈ n.segs, 2 ≤ s.points.length ∧ s.points.length ≤ 8 := fun s hs => by
  have : ptsBad s = false := by
   cases hp : ptsBad s with
   | false => rfl
   | true => rw [List.any_eq_true.2 ⟨s, hs, hp⟩] at h'; cases h'
  unfold ptsBad at this
  split at this
  ·cases this
  ·rename_i h1
   simp at h1 this
   omega
 exact ⟨fun s hs => by have := k s hs; omega, k⟩
set_option maxHeartbeats 4000000 in
theorem check_c (n : Net) (hz : NetSz n) (nn : Nm) : CallsA Try.prog 95 [n.enc] Hp.none nn (Pu (di (checkI n)) Hp.none) := by
 obtain ⟨code, h1, h2⟩ := c95_ok
 refine callsA_of TC_ok mixed (N := fun t => (0, t)) Try.func95 h1 h2 r95_ok [] false js_nil js_nil' (by simp [Try.f95]) ?_
 have hn1 := netOf1_x n
 cases a1 : limB n with
 | false => simp (maxSteps:=500000) only [↓vp, vv, ↓reduceIte, simprocAttr, c95, r95, c95_1, c95_2, c95_3, c95_4, c95_5, c95_6, TC, selNet, Net.enc, hn1, hz, a1, checkI, Pu]
 | true =>
 have hp := (lim_pts a1).1
 generalize hb : formBad n = b
 have hc : checkI n = if b = true then 3 else if twB n = true then 7 else if knB n = true then (if prB n = true then 0 else 9) else 8 := by unfold checkI; rw [a1, hb]; rfl
 simp (maxSteps:=500000) only [↓vp, vv, ↓reduceIte, simprocAttr, c95, c95_6, TC, selNet, Net.enc, hn1, hz, a1]
 refine rng_loop 4 (fun j => ⟨fr [(1, .ptr (0, 1) 0 0 0), (9, nmsD n), (10, di j)], netH n⟩) (fun j => ((nms4 n).drop j).any (fun l => l.any nmBad) = b) (weak1 (by simp only [↓vp, vv, ↓reduceIte, simprocAttr, coverS]) (by simp only [↓vp, vv, ↓reduceIte, simprocAttr, refsF, nmsD]) (by simp only [↓vp, vv, ↓reduceIte, simprocAttr, netD]) (by simp only [↓vp, vv, ↓reduceIte, simprocAttr, ])) hb (fun j hj he => ?_) (fun he => ?_)
 ·have hj' : (j : Int) < 4 := by omega
  have hn := idx_nn j
  have w1 := idx_next (j := j) (by omega)
  have hjl : j < (nms4 n).length := by rw [nms4_len]; exact hj
  obtain ⟨hf, ht⟩ := drop_any hjl he
  have hg := getD_any (fun l => D.sl (List.map nmRow l)) (nms4 n) j hjl
  have hl := nms4_small hz _ (List.getElem_mem hjl)
  generalize (nms4 n)[j] = l at hf ht hg hl
  have hcl2 : j * 1 + 1 ≤ (nms4 n).length := by rw [nms4_len]; omega
  have hq : QOk Try.prog false 1 (qRow nmOf1 nmBad) 135 [] (l.map nmRow) := by
   refine ⟨f135_ok, by simp; omega, fun r hr => ?_⟩
   obtain ⟨x, _, rfl⟩ := List.mem_map.1 hr
   exact ⟨rfl, rfl, fun _ => ⟨_, rfl⟩, fun nn => ck1_c x nn⟩
  have ho : outC (fun r => qRow nmOf1 nmBad (elV false r)) (l.map nmRow) = db (l.any nmBad) := by
   unfold outC
   rw [List.any_map]
   rfl
  have hcl3 : j + 1 ≤ (nms4 n).length := by omega
  cases hd : l.any nmBad with
  | true =>
   have e1 := hf hd
   rw [e1] at hc
   rw [hd] at ho
   have hc3 : checkI n = 3 := hc
   simp (maxSteps:=500000) only [↓vp, vv, ↓reduceIte, simprocAttr, c95, r95, c95_1, c95_2, c95_3, c95_4, c95_5, c95_6, TC, selQ, ipsOf, netH, netD, nmsD_map, hj', hn, Int.toNat_natCast, hcl2, hcl3, Nat.mul_one, hg, hq, ho, hc3, Pu]
  | false =>
   rw [hd] at ho
   simp (maxSteps:=500000) only [↓vp, vv, ↓reduceIte, simprocAttr, c95, r95, c95_1, c95_2, c95_3, c95_4, c95_5, c95_6, TC, selQ, ipsOf, netH, netD, nmsD_map, hj', hn, Int.toNat_natCast, hcl2, hcl3, Nat.mul_one, hg, hq, ho, w1]
   exact rng_next hj (weak1 (by simp only [↓vp, vv, ↓reduceIte, simprocAttr, coverS, nmsD, nms4, w1]) (by simp only [↓vp, vv, ↓reduceIte, simprocAttr, refsF, nmsD, nms4]) (by simp only [↓vp, vv, ↓reduceIte, simprocAttr, netD]) (by simp only [↓vp, vv, ↓reduceIte, simprocAttr, netD])) (ht hd)
 ·have e1 : b = false := drop_any_end (nms4_len n).symm he
  rw [e1] at hc
  simp only [Bool.false_eq_true, if_false] at hc
  cases a2 : twB n with
  | true =>
   rw [a2] at hc
   have hc3 : checkI n = 7 := hc
   simp (maxSteps:=500000) only [↓vp, vv, ↓reduceIte, simprocAttr, c95, r95, c95_1, c95_2, c95_3, c95_4, c95_5, c95_6, TC, selNet, netH, netD, hn1, hz, Int.lt_irrefl, a2, hc3, Pu]
  | false =>
  cases a3 : knB n with
  | false =>
   rw [a2, a3] at hc
   have hc3 : checkI n = 8 := hc
   simp (maxSteps:=500000) only [↓vp, vv, ↓reduceIte, simprocAttr, c95, r95, c95_1, c95_2, c95_3, c95_4, c95_5, c95_6, TC, selNet, netH, netD, hn1, hz, Int.lt_irrefl, a2, a3, hc3, Pu]
  | true =>
  cases a4 : prB n with
  | false =>
   rw [a2, a3, a4] at hc
   have hc3 : checkI n = 9 := hc
   simp (maxSteps:=500000) only [↓vp, vv, ↓reduceIte, simprocAttr, c95, r95, c95_1, c95_2, c95_3, c95_4, c95_5, c95_6, TC, selNet, selNetP, netH, netD, hn1, hz, hp, Int.lt_irrefl, a2, a3, a4, hc3, Pu]
  | true =>
   rw [a2, a3, a4] at hc
   have hc3 : checkI n = 0 := hc
   simp (maxSteps:=500000) only [↓vp, vv, ↓reduceIte, simprocAttr, c95, r95, c95_1, c95_2, c95_3, c95_4, c95_5, c95_6, TC, selNet, selNetP, netH, netD, hn1, hz, hp, Int.lt_irrefl, a2, a3, a4, hc3, Pu]
def selNetW (ok : Net → Prop) (out : Net → D) : List D → Option (Prop × D)
 | [.agg r] => match netOf1 r with
  | some n => some (ok n, out n)
  | Option.none => Option.none
 | _ => Option.none
theorem tc_netw {f : FuncId} {ok : Net → Prop} {out : Net → D} {T : Tbl} (hf : fnOk Try.prog f = true) (h : ∀ n, ok n → ∀ nn, CallsA Try.prog f [n.enc] Hp.none nn (Pu (out n) Hp.none)) (hT : TblOk Try.prog T) : TblOk Try.prog (tc f (rowPu (selNetW ok out)) T) :=
 tc_pu hf (fun args pre d hs hp nn => by
  unfold selNetW at hs
  split at hs
  ·split at hs
   ·rename_i n hn
    cases hs
    rw [netOf1_eq hn]
    exact h _ hp nn
   ·cases hs
  ·cases hs) hT
theorem sz_of_lim {n : Net} (h : limB n = true) : NetSz n := by
 have h2 := (lim_pts h).2
 unfold limB at h
 repeat (split at h; · cases h)
 exact ⟨by omega, by omega, by omega, by omega, fun s hs => by have := h2 s hs; omega⟩
def hf (a b : Int) : Int := if b ≤ 2 * (a % b) then a / b + 1 else a / b
def fHeat (ex t : Int) : Int := 1000000 - hf (ex * (t - 150)) 10
def fPress (co p : Int) : Int := 1000000 + hf (co * p) 1000
def fac (ex co t p : Int) : Int := hf (fHeat ex t * fPress co p) 1000000
def cdOk (t p : Int) : Prop := (-400 ≤ t ∧ t ≤ 1000) ∧ (0 ≤ p ∧ p ≤ 20000)
instance (t p : Int) : Decidable (cdOk t p) := by unfold cdOk; infer_instance
def vfOk (g f : Int) : Prop := (0 ≤ g ∧ g ≤ 1099511627776) ∧ (1 ≤ f ∧ f ≤ 2000000)
instance (g f : Int) : Decidable (vfOk g f) := by unfold vfOk; infer_instance
structure Mtr where
 pl : Int
 bits : Int
 fac : Int
def Mtr.row (m : Mtr) : List D := [di m.pl, di m.bits, di m.fac]
def Mtr.enc (m : Mtr) : D := .agg m.row
structure Cnt where
 last : Int
 pul : Int
theorem Cnt.ext_iff2 (a b : Cnt) : (a.last = b.last ∧ a.pul = b.pul) ↔ a = b := ⟨fun h => by cases a; cases b; simp only at h; obtain ⟨h0, h1⟩ := h; simp only [h0, h1], fun h => by cases h; exact ⟨rfl, rfl⟩⟩
instance : DecidableEq Cnt := fun a b => decidable_of_iff _ (Cnt.ext_iff2 a b)
def Cnt.row (c : Cnt) : List D := [di c.last, di c.pul]
def Cnt.enc (c : Cnt) : D := .agg c.row
structure Cnd where
 te : Int
 pr : Int
theorem Cnd.ext_iff2 (a b : Cnd) : (a.te = b.te ∧ a.pr = b.pr) ↔ a = b := ⟨fun h => by cases a; cases b; simp only at h; obtain ⟨h0, h1⟩ := h; simp only [h0, h1], fun h => by cases h; exact ⟨rfl, rfl⟩⟩
instance : DecidableEq Cnd := fun a b => decidable_of_iff _ (Cnd.ext_iff2 a b)
def Cnd.row (c : Cnd) : List D := [di c.te, di c.pr]
def Cnd.enc (c : Cnd) : D := .agg c.row
structure Prd where
 nm : ByteArray
 de : Int
 ex : Int
 co : Int
 fr : Int
def Prd.row (p : Prd) : List D := [ds p.nm, di p.de, di p.ex, di p.co, di p.fr]
def Prd.enc (p : Prd) : D := .agg p.row
structure Run where
 vol : Int
 rest : Int
theorem Run.ext_iff2 (a b : Run) : (a.vol = b.vol ∧ a.rest = b.rest) ↔ a = b := ⟨fun h => by cases a; cases b; simp only at h; obtain ⟨h0, h1⟩ := h; simp only [h0, h1], fun h => by cases h; exact ⟨rfl, rfl⟩⟩
instance : DecidableEq Run := fun a b => decidable_of_iff _ (Run.ext_iff2 a b)
def Run.row (c : Run) : List D := [di c.vol, di c.rest]
def Run.enc (c : Run) : D := .agg c.row
structure Tic where
 ba : Int
 fl : Int
 fp : Int
 tl : Int
 tp : Int
 te : Int
 pr : Int
 vol : Int
theorem Tic.ext_iff2 (a b : Tic) : (a.ba = b.ba ∧ a.fl = b.fl ∧ a.fp = b.fp ∧ a.tl = b.tl ∧ a.tp = b.tp ∧ a.te = b.te ∧ a.pr = b.pr ∧ a.vol = b.vol) ↔ a = b := ⟨fun h => by cases a; cases b; simp only at h; obtain ⟨h0, h1, h2, h3, h4, h5, h6, h7⟩ := h; simp only [h0, h1, h2, h3, h4, h5, h6, h7], fun h => by cases h; exact ⟨rfl, rfl, rfl, rfl, rfl, rfl, rfl, rfl⟩⟩
instance : DecidableEq Tic := fun a b => decidable_of_iff _ (Tic.ext_iff2 a b)
def Tic.row (t : Tic) : List D := [di t.ba, di t.fl, di t.fp, di t.tl, di t.tp, di t.te, di t.pr, di t.vol]
def Tic.enc (t : Tic) : D := .agg t.row
def Tic.zero : Tic := ⟨0, 0, 0, 0, 0, 0, 0, 0⟩
structure MtrOk (m : Mtr) : Prop where
 pl : 1 ≤ m.pl ∧ m.pl ≤ 1048576
 bits : m.bits = 16 ∨ m.bits = 32
 fac : 50000 ≤ m.fac ∧ m.fac ≤ 200000
instance (m : Mtr) : Decidable (MtrOk m) := decidable_of_iff ((1 ≤ m.pl ∧ m.pl ≤ 1048576) ∧ (m.bits = 16 ∨ m.bits = 32) ∧ (50000 ≤ m.fac ∧ m.fac ≤ 200000)) ⟨fun h => ⟨h.1, h.2.1, h.2.2⟩, fun h => ⟨h.pl, h.bits, h.fac⟩⟩
def spanI (m : Mtr) : Int := if m.bits = 16 then 65536 else 4294967296
structure CntOk (m : Mtr) (c : Cnt) : Prop where
 last : 0 ≤ c.last ∧ c.last < spanI m
 pul : 0 ≤ c.pul ∧ c.pul ≤ 1099511627776
instance (m : Mtr) (c : Cnt) : Decidable (CntOk m c) := decidable_of_iff ((0 ≤ c.last ∧ c.last < spanI m) ∧ (0 ≤ c.pul ∧ c.pul ≤ 1099511627776)) ⟨fun h => ⟨h.1, h.2⟩, fun h => ⟨h.last, h.pul⟩⟩
structure PrdOk (p : Prd) : Prop where
 nm : nameB p.nm = true
 de : 400 ≤ p.de ∧ p.de ≤ 1200
 ex : 0 ≤ p.ex ∧ p.ex ≤ 2000
 co : 0 ≤ p.co ∧ p.co ≤ 5000
 fr : 1 ≤ p.fr ∧ p.fr ≤ 2000
instance (p : Prd) : Decidable (PrdOk p) := decidable_of_iff (nameB p.nm = true ∧ (400 ≤ p.de ∧ p.de ≤ 1200) ∧ (0 ≤ p.ex ∧ p.ex ≤ 2000) ∧ (0 ≤ p.co ∧ p.co ≤ 5000) ∧ (1 ≤ p.fr ∧ p.fr ≤ 2000)) ⟨fun h => ⟨h.1, h.2.1, h.2.2.1, h.2.2.2.1, h.2.2.2.2⟩, fun h => ⟨h.nm, h.de, h.ex, h.co, h.fr⟩⟩
structure RunOk (r : Run) : Prop where
 vol : 0 ≤ r.vol ∧ r.vol ≤ 1099511627776
 rest : 0 ≤ r.rest ∧ r.rest ≤ 999999
instance (r : Run) : Decidable (RunOk r) := decidable_of_iff ((0 ≤ r.vol ∧ r.vol ≤ 1099511627776) ∧ (0 ≤ r.rest ∧ r.rest ≤ 999999)) ⟨fun h => ⟨h.1, h.2⟩, fun h => ⟨h.vol, h.rest⟩⟩
def Run.zero : Run := ⟨0, 0⟩
def Tic.fr (t : Tic) : Cnt := ⟨t.fl, t.fp⟩
def Tic.to (t : Tic) : Cnt := ⟨t.tl, t.tp⟩
end Go.Proofs.Ytadjhfjiimgddaa

/- Meters: readings, counts, litres, of both. -/
namespace Go.Proofs.Ytadjhfjiimgddaa
open Go
def selX {α : Type} (dec : List D → Option α) (pre : α → Prop) (val : α → D) (args : List D) : Option (Prop × D) := match dec args with
 | some a => some (pre a, val a)
 | Option.none => Option.none
theorem tc_x {P : Program} {f : FuncId} {α : Type} {dec : List D → Option α} {pre : α → Prop} {val : α → D} {enc : α → List D} {T : Tbl} (hf : fnOk P f = true) (hd : ∀ l a, dec l = some a → l = enc a)
  (hc : ∀ a, pre a → ∀ nn, CallsA P f (enc a) Hp.none nn (Pu (val a) Hp.none)) (hT : TblOk P T) : TblOk P (tc f (rowPu (selX dec pre val)) T) :=
 tc_pu hf (fun args p d h hp nn => by
  unfold selX at h
  split at h
  ·rename_i a e
   cases h
   rw [hd _ _ e]
   exact hc a hp nn
  ·cases h) hT
def tt {α : Type} : α → Prop := fun _ => True
end Go.Proofs.Ytadjhfjiimgddaa

/- Products: valid ones, of both. -/
namespace Go.Proofs.Ytadjhfjiimgddaa
open Go
end Go.Proofs.Ytadjhfjiimgddaa
/- Compiled code of some functions (printed by a program), each checked by the kernel. -/
namespace Go.Proofs.Ytadjhfjiimgddaa
open Go
end Go.Proofs.Ytadjhfjiimgddaa

/- Tickets: chains, sums, of both. -/
namespace Go.Proofs.Ytadjhfjiimgddaa
open Go
def RngIP {α : Type} (n : Nat) (st : Nat → α → St) (P : Nat → α → Prop) (m : Nat) (s : St) : Prop := ∃ (j : Nat) (u : α), j + m = n ∧ P j u ∧ s = st j u
theorem rng_loopP {T : Tbl} {N : Nat → Nm} {J : List Nm} {c : C} {Q : Ex → St → Prop} {s : St} {α : Type} (n : Nat) (st : Nat → α → St) (P : Nat → α → Prop) {u0 : α} (h0 : Weak J s (st 0 u0)) (hP : P 0 u0)
  (hs : ∀ j, j < n → ∀ u, P j u → vc T N J c (loopQ J (RngIP n st P) (n - j) Q) (st j u)) (he : ∀ u, P n u → vc T N J c (loopQ J (RngIP n st P) 0 Q) (st n u)) : vc T N J (.loop c) Q s := by
 rw [vc_loop]
 refine ⟨RngIP n st P, ⟨n, _, h0, 0, u0, by omega, hP, rfl⟩, ?_⟩
 rintro m s' ⟨j, u, hj, hPj, rfl⟩
 by_cases h : j < n
 ·obtain rfl : m = n - j := by omega
  exact hs j h u hPj
 ·obtain rfl : j = n := by omega
  obtain rfl : m = 0 := by omega
  exact he u hPj
theorem rng_nextP {J : List Nm} {n : Nat} {α : Type} {st : Nat → α → St} {P : Nat → α → Prop} {j : Nat} {s : St} (hj : j < n) (u : α) (w : Weak J s (st (j + 1) u)) (hp : P (j + 1) u) : ∃ k' s', k' < n - j ∧ Weak J s s' ∧ RngIP n st P k' s' :=
 ⟨n - (j + 1), _, by omega, w, j + 1, u, by omega, hp, rfl⟩
def c27_1 : C := (.seq (.ops false [oM 6 0, oB 7 (.call 77 [(.t 6)]), oM 2 7]) .ret)
def c27 : C := (.seq (.ops false [oP 2 (.mv (cI 0))]) (.seq (.seq (.ops false [oM 3 0, oB 4 (.call 76 [(.t 3)]), oP 5 (.not (.t 4))]) (.cond (.t 5) (.seq (.ops false [oP 2 (.mv (cI 0))]) .ret) .skip)) c27_1))
def r27 : List RV := [(.tmp 2)]
theorem c27_ok : ∃ code, Try.f27.body = some code ∧ compC Try.prog Try.f27.ntmps code = some (C.strip c27) := ⟨_, rfl, by kernel_rfl⟩
theorem r27_ok : compRes Try.prog Try.f27.results.toList = some r27 := by kernel_rfl
theorem f27_ok : fnOk Try.prog 27 = true := by kernel_rfl
def c76_1 : C := (.ops false [oM 45 3, oP 46 (.fa 1 (.t 5)), oP 47 (.ld 1 false (.t 46)), oP 48 (.bin .add (.t 45) (.t 47)), oM 3 48])
def c76_2 : C := (.ops false [oP 49 (.bin .add (.t 11) (cI 1)), oM 11 49])
def c76_3 : C := (.seq (.block 1 (.seq (.ops false [oM 13 11, oP 14 (.iaS 2 (.t 9) (.t 11)), oP 15 (.ld 2 true (.t 14)), oP 5 (.new [(.v (.int .i64 0)), (.v (.int .i64 0))]), oM 4 13, oS (.st 2 (.t 5) (.t 15))]) (.seq (.seq (.ops true [oP 16 (.fa 0 (.t 5)), oA 17 (.ld 1 false (.t 16)) [0], oE 18 (.call 123 [(.t 17)]) [0, 1], oA 19 (.not (.t 18)) [1, 0, 2], oA 20 (.mv (.t 19)) [0, 1, 2, 3],
 oH 21 20 false (.fa 1 (.t 5)) [3, 2, 1, 0, 4], oH 22 20 false (.ld 1 false (.t 21)) [0, 1, 2, 3, 4, 5], oH 23 20 false (.bin .lss (.t 22) (cI 1)) [5, 3, 2, 1, 0, 4, 6], oA 24 (.pick (.t 20) (cB true) (.t 23)) [6, 5, 3, 2, 1, 0, 7, 4], oA 25 (.mv (.t 24)) [7, 0, 1, 2, 3, 5, 6, 4, 8], oH 26 25 false (.fa 1 (.t 5)) [8, 4, 6, 5, 3, 2, 1, 0, 7, 9], oH 27 25 false (.ld 1 false (.t 26)) [7, 0, 1, 2, 3,
 5, 6, 4, 8, 9, 10], oH 28 25 false (.bin .gtr (.t 27) (cI 1000000)) [10, 8, 4, 6, 5, 3, 2, 1, 0, 7, 9, 11], oA 29 (.pick (.t 25) (cB true) (.t 28)) [11, 10, 8, 4, 6, 5, 3, 2, 1, 0, 7, 12, 9], oA 30 (.mv (.t 29)) [12, 7, 0, 1, 2, 3, 5, 6, 4, 8, 10, 11, 9, 13], oH 31 30 false (.mv (.t 4)) [13, 9, 11, 10, 8, 4, 6, 5, 3, 2, 1, 0, 7, 12, 14], oH 32 30 false (.bin .gtr (.t 31) (cI 0)) [12, 7, 0, 1, 2,
 3, 5, 6, 4, 8, 10, 11, 9, 13, 14, 15], oH 33 30 false (.mv (.t 32)) [15, 13, 9, 11, 10, 8, 4, 6, 5, 3, 2, 1, 0, 7, 12, 14, 16], oH 34 33 true (.fa 0 (.t 5)) [16, 14, 12, 7, 0, 1, 2, 3, 5, 6, 4, 8, 10, 11, 9, 13, 15, 17], oH 35 33 true (.ld 1 false (.t 34)) [15, 13, 9, 11, 10, 8, 4, 6, 5, 3, 2, 1, 0, 7, 12, 14, 16, 17, 18], oH 36 33 true (.mv (.t 0)) [16, 14, 12, 7, 0, 1, 2, 3, 5, 6, 4, 8, 10, 11,
 9, 13, 15, 17], oH 37 33 true (.mv (.t 4)) [16, 14, 12, 7, 0, 1, 2, 3, 5, 6, 4, 8, 10, 11, 9, 13, 15, 17], oH 38 33 true (.bin .sub (.t 37) (cI 1)) [15, 13, 9, 11, 10, 8, 4, 6, 5, 3, 2, 1, 0, 7, 12, 14, 16, 17, 21], oH 39 33 true (.iaS 2 (.t 36) (.t 38)) [21, 15, 13, 9, 11, 10, 8, 4, 6, 5, 3, 2, 1, 0, 7, 12, 14, 16, 17, 22, 20], oH 40 33 true (.fa 0 (.t 39)) [20, 22, 16, 14, 12, 7, 0, 1, 2, 3, 5,
 6, 4, 8, 10, 11, 9, 13, 15, 21, 17, 23], oH 41 33 true (.ld 1 false (.t 40)) [23, 21, 15, 13, 9, 11, 10, 8, 4, 6, 5, 3, 2, 1, 0, 7, 12, 14, 16, 22, 20, 17, 24], oH 42 33 true (.bin .eql (.t 35) (.t 41)) [24, 20, 22, 21, 23, 18, 16, 14, 12, 7, 0, 1, 2, 3, 5, 6, 4, 8, 10, 11, 9, 13, 15, 17, 25, 19], oH 43 30 false (.pick (.t 33) (.t 42) (cB false)) [19, 25, 18, 23, 21, 22, 20, 24, 16, 12, 7, 0, 1,
 2, 3, 5, 6, 4, 8, 10, 11, 9, 13, 15, 14, 26, 17], oA 44 (.pick (.t 30) (cB true) (.t 43)) [17, 26, 15, 16, 24, 20, 22, 21, 23, 18, 25, 19, 13, 9, 11, 10, 8, 4, 6, 5, 3, 2, 1, 0, 7, 12, 27, 14]]) (.cond (.t 44) (.seq (.ops false [oP 2 (.mv (cB false))]) .ret) .skip)) c76_1))) c76_2)
def c76_4 : C := (.seq (.ops false [oP 12 (.bin .lss (.t 11) (.t 10))]) (.seq (.cond (.t 12) .skip (.exit 0)) c76_3))
def c76_5 : C := (.seq (.ops false [oM 50 3, oP 51 (.bin .leq (.t 50) (cI 1000000)), oM 2 51]) .ret)
def c76_6 : C := (.seq (.ops false [oP 3 (.mv (cI 0))]) (.seq (.seq (.ops false [oM 9 0, oP 10 (.len (.t 9)), oP 11 (.mv (cI 0))]) (.block 0 (.loop c76_4))) c76_5))
def c76 : C := (.seq (.ops false [oP 2 (.mv (cB false))]) (.seq (.seq (.ops false [oM 6 0, oP 7 (.len (.t 6)), oP 8 (.bin .gtr (.t 7) (cI 200))]) (.cond (.t 8) (.seq (.ops false [oP 2 (.mv (cB false))]) .ret) .skip)) c76_6))
def r76 : List RV := [(.tmp 2)]
theorem c76_ok : ∃ code, Try.f76.body = some code ∧ compC Try.prog Try.f76.ntmps code = some (C.strip c76) := ⟨_, rfl, by kernel_rfl⟩
theorem r76_ok : compRes Try.prog Try.f76.results.toList = some r76 := by kernel_rfl
theorem f76_ok : fnOk Try.prog 76 = true := by kernel_rfl
def c77_1 : C := (.seq (.block 1 (.seq (.ops false [oM 9 7, oM 4 9]) (.ops false [oM 10 3, oM 11 0, oM 12 4, oP 13 (.iaS 2 (.t 11) (.t 12)), oP 14 (.fa 1 (.t 13)), oP 15 (.ld 1 false (.t 14)), oP 16 (.bin .add (.t 10) (.t 15)), oM 3 16]))) (.ops false [oP 17 (.bin .add (.t 7) (cI 1)), oM 7 17]))
def c77_2 : C := (.seq (.ops false [oP 8 (.bin .lss (.t 7) (.t 6))]) (.seq (.cond (.t 8) .skip (.exit 0)) c77_1))
def c77_3 : C := (.seq (.ops false [oM 18 3, oM 2 18]) .ret)
def c77 : C := (.seq (.ops false [oP 2 (.mv (cI 0))]) (.seq (.ops false [oP 3 (.mv (cI 0))]) (.seq (.seq (.ops false [oM 5 0, oP 6 (.len (.t 5)), oP 7 (.mv (cI 0))]) (.block 0 (.loop c77_2))) c77_3)))
def r77 : List RV := [(.tmp 2)]
theorem c77_ok : ∃ code, Try.f77.body = some code ∧ compC Try.prog Try.f77.ntmps code = some (C.strip c77) := ⟨_, rfl, by kernel_rfl⟩
theorem r77_ok : compRes Try.prog Try.f77.results.toList = some r77 := by kernel_rfl
theorem f77_ok : fnOk Try.prog 77 = true := by kernel_rfl
def c123 : C := (.seq (.ops false [oP 2 (.mv (cB false))]) (.seq (.ops false [oM 3 0, oP 4 (.bin .geq (.t 3) (cI 0)), oM 5 4, oG 6 5 true (.mv (.t 0)), oG 7 5 true (.bin .lss (.t 6) (cI 1000)), oP 8 (.pick (.t 5) (.t 7) (cB false)), oM 2 8]) .ret))
def r123 : List RV := [(.tmp 2)]
theorem c123_ok : ∃ code, Try.f123.body = some code ∧ compC Try.prog Try.f123.ntmps code = some (C.strip c123) := ⟨_, rfl, by kernel_rfl⟩
theorem r123_ok : compRes Try.prog Try.f123.results.toList = some r123 := by kernel_rfl
theorem f123_ok : fnOk Try.prog 123 = true := by kernel_rfl
def iA (l : List Int) (j : Nat) : Int := l.getD j 0
def pick (p s : List Int) : List Int := s.map fun i => iA p i.toNat
end Go.Proofs.Ytadjhfjiimgddaa

/- Tickets: sums and comparisons. -/
namespace Go.Proofs.Ytadjhfjiimgddaa
open Go
end Go.Proofs.Ytadjhfjiimgddaa

/- Tables of products: the checks of both. -/
namespace Go.Proofs.Ytadjhfjiimgddaa
open Go
end Go.Proofs.Ytadjhfjiimgddaa
