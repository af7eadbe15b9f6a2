/- RouteAnswers: Nk5 Nk6 Nk7 NkOk Fl1. -/
import Derived.Test.YtadjhfjiimgddaaYr8
set_option linter.unusedSimpArgs false
set_option linter.unusedVariables false
set_option maxRecDepth 100000

/- Networks: known indices; segments in their ranges. -/
namespace Go.Proofs.Ytadjhfjiimgddaa
open Go
def iRow (k : Int) : List D := [di k]
def unk (n : Net) (k : Int) : Bool := if decide (k < 0) = true then true else decide ((n.nodes.length : Int) ≤ k)
def endsOf (s : Seg) : List Int := [s.fr, s.to]
def allIx (n : Net) : List Int := (n.segs.flatMap endsOf ++ n.ports.map (·.node)) ++ n.sts.map (·.node)
def knB (n : Net) : Bool := !((allIx n).any (unk n))
set_option maxHeartbeats 4000000 in
theorem kn1_c (n : Net) (k : Int) (nn : Nm) : CallsA Try.prog 165 [di k, .ip (netD n)] Hp.none nn (Pu (db (unk n k)) Hp.none) := by
 obtain ⟨code, h1, h2⟩ := c165_ok
 refine callsA_of (T0_ok _) mixed (N := fun t => (0, t)) Try.func165 h1 h2 r165_ok [] false js_nil js_nil' (by simp [Try.f165]) ?_
 cases a1 : decide (k < 0) <;> simp (maxSteps:=500000) only [↓vp, vv, ↓reduceIte, simprocAttr, c165, r165, netD, a1, unk, Pu]
def intOf1 : List D → Option Int
 | [.v (.int .i64 k)] => some k
 | _ => Option.none
def TK (P : Program) (n : Net) : Tbl := tc 145 (rowPu (selQ P false 1 (fun g l => qRow intOf1 (unk n)) outC)) T0
theorem TK_ok (n : Net) : TblOk Try.prog (TK Try.prog n) := by
 refine tc_pu f145_ok (fun args pre d h hp nn => ?_) (T0_ok _)
 unfold selQ at h
 split at h
 ·split at h
  ·rename_i hi
   cases h
   rw [ipsOf_eq hi]
   exact hasF_I _ _ _ _ hp nn
  ·cases h
 ·cases h
def KnHp (n : Net) (g : Nat) (l : List Int) : Hp := (Hp.none.put (0, 1000) ⟨g, 1, l.map iRow⟩).put (0, 1) ⟨0, 6, [netD n]⟩
theorem take_fm {α β : Type} (f : α → List β) {l : List α} {j : Nat} (h : j < l.length) : (l.take (j + 1)).flatMap f = (l.take j).flatMap f ++ f l[j] := by
 rw [← List.take_append_getElem h, List.flatMap_append]; simp
theorem take_mp {α β : Type} (f : α → β) {l : List α} {j : Nat} (h : j < l.length) : (l.take (j + 1)).map f = (l.take j).map f ++ [f l[j]] := by
 rw [← List.take_append_getElem h, List.map_append]; rfl
set_option maxHeartbeats 8000000 in
theorem known_c (n : Net) (hz : NetSz n) (nn : Nm) : CallsA Try.prog 137 [n.enc] Hp.none nn (Pu (db (knB n)) Hp.none) := by
 obtain ⟨code, h1, h2⟩ := c137_ok
 refine callsA_of (TK_ok n) mixed (N := fun t => (0, t)) Try.func137 h1 h2 r137_ok [] false js_nil js_nil' (by simp [Try.f137]) ?_
 obtain ⟨hz0, hz1, hz2, hz3, _⟩ := hz
 simp (maxSteps:=500000) only [↓vp, vv, ↓reduceIte, simprocAttr, c137, Net.enc]
 rw [vc_loop]
 refine ⟨fun m s => ∃ (j g : Nat), j + m = n.segs.length ∧ s = ⟨fr [(1, .ptr (0, 1) 0 0 0), (3, .own (0, 1000) g 0 ((n.segs.take j).flatMap endsOf).length), (11, .sl (n.segs.map Seg.row)), (12, di n.segs.length), (13, di j)], KnHp n g ((n.segs.take j).flatMap endsOf)⟩, ⟨n.segs.length, _, (weak_own 3 (0, 1000) 1 (by simp only [↓vp, vv, ↓reduceIte, simprocAttr, ]) (by simp only [↓vp, vv, ↓reduceIte, simprocAttr, ])).trans (weak_eq [] [(0, 1), (0, 1000)] [(1, .ptr (0, 1) 0 0 0), (3, .own (0, 1000) 0 0 (([] : List Int)).length), (11, .sl (n.segs.map Seg.row)), (12, di n.segs.length), (13, di 0)] (by simp only [↓vp, vv, ↓reduceIte, simprocAttr, coverS]) (by simp only [↓vp, vv, ↓reduceIte, simprocAttr, refsF]) (by simp only [↓vp, vv, ↓reduceIte, simprocAttr, netD, iRow, KnHp]) (by simp) (by simp only [↓vp, vv, ↓reduceIte, simprocAttr, netD, iRow, KnHp]; try rfl)), 0, 0, by omega, by simp [KnHp, netD]⟩, ?_⟩
 rintro m s ⟨j, g1, hj, rfl⟩
 by_cases hlt : j < n.segs.length
 ·have hlt' : (j : Int) < n.segs.length := by omega
  have hn := idx_nn j
  have hg := getD_map Seg.row n.segs j hlt
  have w1 := idx_next (j := j) (by omega)
  have htk := take_fm endsOf hlt
  generalize n.segs[j] = x at hg htk
  have hlen : ((n.segs.take j).flatMap endsOf).length ≤ 10000000 := by
   simp only [List.length_append, List.length_map, List.length_flatMap, endsOf, List.length_cons, List.length_nil, List.map_const', List.sum_replicate_nat, List.length_take]
   omega
  have hnew : (n.segs.take (j + 1)).flatMap endsOf = (n.segs.take j).flatMap endsOf ++ endsOf x := by rw [htk]
  generalize (n.segs.take j).flatMap endsOf = K at hlen hnew
  simp (maxSteps:=500000) only [↓vp, vv, ↓reduceIte, simprocAttr, c137_2, c137_1, KnHp, netD, iRow, hlt', hn, Int.toNat_natCast, hg, Seg.row, w1]
  refine ⟨⟨by omega, by omega⟩, m - 1, _, by omega, weak_eq [] [(0, 1), (0, 1000)] [(1, .ptr (0, 1) 0 0 0), (3, .own (0, 1000) (g1 + 1) 0 (K.length + 2)), (11, .sl (n.segs.map Seg.row)), (12, di n.segs.length), (13, di (j + 1 : Nat))] (by simp only [↓vp, vv, ↓reduceIte, simprocAttr, coverS, Seg.row, w1]) (by simp only [↓vp, vv, ↓reduceIte, simprocAttr, refsF]) (by simp only [↓vp, vv, ↓reduceIte, simprocAttr, netD, iRow]) (by simp) (by simp only [↓vp, vv, ↓reduceIte, simprocAttr, netD, iRow]; try rfl), j + 1, g1 + 1, by omega, ?_⟩
  have hnl := congrArg List.length hnew
  simp [endsOf] at hnl
  simp only [hnew]
  simp [KnHp, netD, iRow, endsOf, hnl]
 ·have hlt' : ¬ (j : Int) < n.segs.length := by omega
  obtain rfl : j = n.segs.length := by omega
  simp only [List.take_length]
  simp (maxSteps:=500000) only [↓vp, vv, ↓reduceIte, simprocAttr, c137_2, c137_9, KnHp, netD, hlt', Int.lt_irrefl]
  rw [vc_loop]
  refine ⟨fun m s => ∃ (j g : Nat), j + m = n.ports.length ∧ s = ⟨fr [(1, .ptr (0, 1) 0 0 0), (3, .own (0, 1000) g 0 (n.segs.flatMap endsOf ++ (n.ports.take j).map (·.node)).length), (26, .sl (n.ports.map Port.row)), (27, di n.ports.length), (28, di j)], KnHp n g (n.segs.flatMap endsOf ++ (n.ports.take j).map (·.node))⟩, ⟨n.ports.length, _, (weak_eq [] [(0, 1), (0, 1000)] [(1, .ptr (0, 1) 0 0 0), (3, .own (0, 1000) g1 0 (n.segs.flatMap endsOf).length), (26, .sl (n.ports.map Port.row)), (27, di n.ports.length), (28, di 0)] (by simp only [↓vp, vv, ↓reduceIte, simprocAttr, coverS]) (by simp only [↓vp, vv, ↓reduceIte, simprocAttr, refsF]) (by simp only [↓vp, vv, ↓reduceIte, simprocAttr, netD, iRow, KnHp]) (by simp) (by simp only [↓vp, vv, ↓reduceIte, simprocAttr, netD, iRow, KnHp]; try rfl)), 0, g1, by omega, by simp [KnHp, netD, iRow]⟩, ?_⟩
  rintro m s ⟨j, g2, hj, rfl⟩
  by_cases hlt : j < n.ports.length
  ·have hlt' : (j : Int) < n.ports.length := by omega
   have hn := idx_nn j
   have hg := getD_map Port.row n.ports j hlt
   have w1 := idx_next (j := j) (by omega)
   have htk := take_mp (fun p : Port => p.node) hlt
   generalize n.ports[j] = x at hg htk
   have hlen : (n.segs.flatMap endsOf ++ (n.ports.take j).map (·.node)).length ≤ 10000000 := by
    simp only [List.length_append, List.length_map, List.length_flatMap, endsOf, List.length_cons, List.length_nil, List.map_const', List.sum_replicate_nat, List.length_take]
    omega
   have hnew : n.segs.flatMap endsOf ++ (n.ports.take (j + 1)).map (·.node) = n.segs.flatMap endsOf ++ (n.ports.take j).map (·.node) ++ [x.node] := by rw [htk]; simp
   generalize n.segs.flatMap endsOf ++ (n.ports.take j).map (·.node) = K at hlen hnew
   simp (maxSteps:=500000) only [↓vp, vv, ↓reduceIte, simprocAttr, c137_4, c137_3, KnHp, netD, iRow, hlt', hn, Int.toNat_natCast, hg, Port.row, w1]
   refine ⟨⟨by omega, by omega⟩, m - 1, _, by omega, weak_eq [] [(0, 1), (0, 1000)] [(1, .ptr (0, 1) 0 0 0), (3, .own (0, 1000) (g2 + 1) 0 (K.length + 1)), (26, .sl (n.ports.map Port.row)), (27, di n.ports.length), (28, di (j + 1 : Nat))] (by simp only [↓vp, vv, ↓reduceIte, simprocAttr, coverS, Port.row, w1]) (by simp only [↓vp, vv, ↓reduceIte, simprocAttr, refsF]) (by simp only [↓vp, vv, ↓reduceIte, simprocAttr, netD, iRow]) (by simp) (by simp only [↓vp, vv, ↓reduceIte, simprocAttr, netD, iRow]; try rfl), j + 1, g2 + 1, by omega, ?_⟩
   have hnl := congrArg List.length hnew
   simp [endsOf] at hnl
   simp only [hnew]
   simp [KnHp, netD, iRow, endsOf, hnl]
  ·have hlt' : ¬ (j : Int) < n.ports.length := by omega
   obtain rfl : j = n.ports.length := by omega
   simp only [List.take_length]
   simp (maxSteps:=500000) only [↓vp, vv, ↓reduceIte, simprocAttr, c137_4, c137_8, KnHp, netD, hlt', Int.lt_irrefl]
   rw [vc_loop]
   refine ⟨fun m s => ∃ (j g : Nat), j + m = n.sts.length ∧ s = ⟨fr [(1, .ptr (0, 1) 0 0 0), (3, .own (0, 1000) g 0 ((n.segs.flatMap endsOf ++ n.ports.map (·.node)) ++ (n.sts.take j).map (·.node)).length), (39, .sl (n.sts.map Stn.row)), (40, di n.sts.length), (41, di j)], KnHp n g ((n.segs.flatMap endsOf ++ n.ports.map (·.node)) ++ (n.sts.take j).map (·.node))⟩, ⟨n.sts.length, _, (weak_eq [] [(0, 1), (0, 1000)] [(1, .ptr (0, 1) 0 0 0), (3, .own (0, 1000) g2 0 (n.segs.flatMap endsOf ++ n.ports.map (·.node)).length), (39, .sl (n.sts.map Stn.row)), (40, di n.sts.length), (41, di 0)] (by simp only [↓vp, vv, ↓reduceIte, simprocAttr, coverS]) (by simp only [↓vp, vv, ↓reduceIte, simprocAttr, refsF]) (by simp only [↓vp, vv, ↓reduceIte, simprocAttr, netD, iRow, KnHp]) (by simp) (by simp only [↓vp, vv, ↓reduceIte, simprocAttr, netD, iRow, KnHp]; try rfl)), 0, g2, by omega, by simp [KnHp, netD, iRow]⟩, ?_⟩
   rintro m s ⟨j, g3, hj, rfl⟩
   by_cases hlt : j < n.sts.length
   ·have hlt' : (j : Int) < n.sts.length := by omega
    have hn := idx_nn j
    have hg := getD_map Stn.row n.sts j hlt
    have w1 := idx_next (j := j) (by omega)
    have htk := take_mp (fun p : Stn => p.node) hlt
    generalize n.sts[j] = x at hg htk
    have hlen : ((n.segs.flatMap endsOf ++ n.ports.map (·.node)) ++ (n.sts.take j).map (·.node)).length ≤ 10000000 := by
     simp only [List.length_append, List.length_map, List.length_flatMap, endsOf, List.length_cons, List.length_nil, List.map_const', List.sum_replicate_nat, List.length_take]
     omega
    have hnew : (n.segs.flatMap endsOf ++ n.ports.map (·.node)) ++ (n.sts.take (j + 1)).map (·.node) = (n.segs.flatMap endsOf ++ n.ports.map (·.node)) ++ (n.sts.take j).map (·.node) ++ [x.node] := by rw [htk]; simp
    generalize (n.segs.flatMap endsOf ++ n.ports.map (·.node)) ++ (n.sts.take j).map (·.node) = K at hlen hnew
    simp (maxSteps:=500000) only [↓vp, vv, ↓reduceIte, simprocAttr, c137_6, c137_5, KnHp, netD, iRow, hlt', hn, Int.toNat_natCast, hg, Stn.row, w1]
    refine ⟨⟨by omega, by omega⟩, m - 1, _, by omega, weak_eq [] [(0, 1), (0, 1000)] [(1, .ptr (0, 1) 0 0 0), (3, .own (0, 1000) (g3 + 1) 0 (K.length + 1)), (39, .sl (n.sts.map Stn.row)), (40, di n.sts.length), (41, di (j + 1 : Nat))] (by simp only [↓vp, vv, ↓reduceIte, simprocAttr, coverS, Stn.row, w1]) (by simp only [↓vp, vv, ↓reduceIte, simprocAttr, refsF]) (by simp only [↓vp, vv, ↓reduceIte, simprocAttr, netD, iRow]) (by simp) (by simp only [↓vp, vv, ↓reduceIte, simprocAttr, netD, iRow]; try rfl), j + 1, g3 + 1, by omega, ?_⟩
    have hnl := congrArg List.length hnew
    simp [endsOf] at hnl
    simp only [hnew]
    simp [KnHp, netD, iRow, endsOf, Nat.add_assoc, hnl]
   ·have hlt' : ¬ (j : Int) < n.sts.length := by omega
    obtain rfl : j = n.sts.length := by omega
    simp only [List.take_length]
    have hq : QOk Try.prog false 1 (qRow intOf1 (unk n)) 165 [netD n] ((allIx n).map iRow) := by
     refine ⟨f165_ok, ?_, fun r hr => ?_⟩
     ·simp only [allIx, List.length_append, List.length_map, List.length_flatMap, endsOf, List.length_cons, List.length_nil, List.map_const', List.sum_replicate_nat]
      omega
     ·obtain ⟨x, _, rfl⟩ := List.mem_map.1 hr
      exact ⟨rfl, rfl, fun _ => ⟨_, rfl⟩, fun nn => kn1_c n x nn⟩
    have ho : outC (fun r => qRow intOf1 (unk n) (elV false r)) ((allIx n).map iRow) = db ((allIx n).any (unk n)) := by
     unfold outC
     rw [List.any_map]
     rfl
    change vc _ _ _ _ _ ⟨fr [(1, .ptr (0, 1) 0 0 0), (3, .own (0, 1000) g3 0 (allIx n).length), (39, .sl (n.sts.map Stn.row)), (40, di n.sts.length), (41, di n.sts.length)], KnHp n g3 (allIx n)⟩
    simp (maxSteps:=500000) only [↓vp, vv, ↓reduceIte, simprocAttr, c137_6, KnHp, netD, hlt', Int.lt_irrefl]
    refine vc_wk ((weak_ip 1 (0, 1) 0 6 (netD n) (by simp only [↓vp, vv, ↓reduceIte, simprocAttr, ]) (by simp only [↓vp, vv, ↓reduceIte, simprocAttr, netD]) (by simp only [↓vp, vv, ↓reduceIte, simprocAttr, netD]) (by simp)).trans (weak_eq [(0, 1000)] [] [(1, .ip (netD n)), (3, .sl ((allIx n).map iRow))] (by simp only [↓vp, vv, ↓reduceIte, simprocAttr, coverS, iRow]) (by simp only [↓vp, vv, ↓reduceIte, simprocAttr, refsF]) (by simp only [↓vp, vv, ↓reduceIte, simprocAttr, ]) (by simp) (by simp only [↓vp, vv, ↓reduceIte, simprocAttr, ]; try rfl))) ?_
    simp (maxSteps:=500000) only [↓vp, vv, ↓reduceIte, simprocAttr, c137_7, r137, TK, selQ, ipsOf, hq, ho, knB, Pu]
def inB (a b c : Int) : Bool := if decide (b ≤ a) = true then decide (a ≤ c) else false
set_option maxHeartbeats 1000000 in
theorem in_c (a b c : Int) (nn : Nm) : CallsA Try.prog 170 [di a, di b, di c] Hp.none nn (Pu (db (inB a b c)) Hp.none) := by
 obtain ⟨code, h1, h2⟩ := c170_ok
 refine callsA_of (T0_ok _) mixed (N := fun t => (0, t)) Try.func170 h1 h2 r170_ok [] false js_nil js_nil' (by simp [Try.f170]) ?_
 cases hb : decide (b ≤ a) <;> simp (maxSteps:=500000) only [↓vp, vv, ↓reduceIte, simprocAttr, c170, r170, hb, Pu, inB]
set_option maxHeartbeats 1000000 in
theorem rin_c (a b c : Int) (nn : Nm) : CallsA Try.prog 139 [di a, di b, di c] Hp.none nn (Pu (db (inB a b c)) Hp.none) := by
 obtain ⟨code, h1, h2⟩ := c139_ok
 refine callsA_of (T0_ok _) mixed (N := fun t => (0, t)) Try.func139 h1 h2 r139_ok [] false js_nil js_nil' (by simp [Try.f139]) ?_
 cases hb : decide (b ≤ a) <;> simp (maxSteps:=500000) only [↓vp, vv, ↓reduceIte, simprocAttr, c139, r139, hb, Pu, inB]
def selIn : List D → Option (Prop × D)
 | [.v (.int .i64 a), .v (.int .i64 b), .v (.int .i64 c)] => some (True, db (inB a b c))
 | _ => Option.none
def TI : Tbl := tc 170 (rowPu selIn) (tc 139 (rowPu selIn) T0)
theorem TI_ok : TblOk Try.prog TI := by
 refine tc_pu f170_ok (fun args pre d h hp nn => ?_) (tc_pu f139_ok (fun args pre d h hp nn => ?_) (T0_ok _))
 ·unfold selIn at h
  split at h <;> cases h
  exact in_c _ _ _ nn
 ·unfold selIn at h
  split at h <;> cases h
  exact rin_c _ _ _ nn
def ptBad (l : List Pt) (i : Nat) : Bool := match l[i]? with
 | some p => if inB p.height (-500) 5000 = true then (if inB p.limit 0 100000000 = true then (if 0 < i then decide (p.at' ≤ (l.getD (i - 1) ⟨0, 0, 0⟩).at') else false) else true) else true
 | Option.none => false
def pipeB (s : Seg) : Bool := if (s.fr == s.to) = true then false else if inB s.cap 1 1000000 = true then (if inB s.resist 0 1000 = true then (if inB s.wave 0 100000 = true then
  (if (List.range s.points.length).any (ptBad s.points) = true then false else if ((s.points.getD 0 ⟨0, 0, 0⟩).at' == 0) = true then (s.points.getD (s.points.length - 1) ⟨0, 0, 0⟩).at' == s.cap else false) else false) else false) else false
theorem pt_at {l : List Pt} {i : Nat} (h : i < l.length) : ptBad l i = if inB l[i].height (-500) 5000 = true then (if inB l[i].limit 0 100000000 = true then (if 0 < i then decide (l[i].at' ≤ (l.getD (i - 1) ⟨0, 0, 0⟩).at') else false) else true) else true := by
 unfold ptBad
 rw [List.getElem?_eq_getElem h]
theorem getD_lt {α : Type} {l : List α} {k : Nat} (h : k < l.length) (d : α) : l.getD k d = l[k] := by rw [List.getD_eq_getElem?_getD, List.getElem?_eq_getElem h]; rfl
set_option maxHeartbeats 8000000 in
theorem pipe_c (s : Seg) (hz : 1 ≤ s.points.length ∧ s.points.length ≤ 1000000) (nn : Nm) : CallsA Try.prog 167 [.agg s.row] Hp.none nn (Pu (db (pipeB s)) Hp.none) := by
 obtain ⟨code, h1, h2⟩ := c167_ok
 refine callsA_of TI_ok mixed (N := fun t => (0, t)) Try.func167 h1 h2 r167_ok [] false js_nil js_nil' (by simp [Try.f167]) ?_
 cases a1 : (s.fr == s.to) with
 | true => simp (maxSteps:=500000) only [↓vp, vv, ↓reduceIte, simprocAttr, c167, r167, c167_1, c167_2, c167_3, c167_4, c167_5, TI, selIn, Seg.row, a1, pipeB, Pu]
 | false =>
 cases a2 : inB s.cap 1 1000000 with
 | false => simp (maxSteps:=500000) only [↓vp, vv, ↓reduceIte, simprocAttr, c167, r167, c167_1, c167_2, c167_3, c167_4, c167_5, TI, selIn, Seg.row, a1, a2, pipeB, Pu]
 | true =>
 cases a3 : inB s.resist 0 1000 with
 | false => simp (maxSteps:=500000) only [↓vp, vv, ↓reduceIte, simprocAttr, c167, r167, c167_1, c167_2, c167_3, c167_4, c167_5, TI, selIn, Seg.row, a1, a2, a3, pipeB, Pu]
 | true =>
 cases a4 : inB s.wave 0 100000 with
 | false => simp (maxSteps:=500000) only [↓vp, vv, ↓reduceIte, simprocAttr, c167, r167, c167_1, c167_2, c167_3, c167_4, c167_5, TI, selIn, Seg.row, a1, a2, a3, a4, pipeB, Pu]
 | true =>
 generalize hb : (List.range s.points.length).any (ptBad s.points) = b
 have hp : pipeB s = if b = true then false else if ((s.points.getD 0 ⟨0, 0, 0⟩).at' == 0) = true then (s.points.getD (s.points.length - 1) ⟨0, 0, 0⟩).at' == s.cap else false := by unfold pipeB; rw [a1, a2, a3, a4, hb]; rfl
 simp (maxSteps:=500000) only [↓vp, vv, ↓reduceIte, simprocAttr, c167, c167_5, TI, selIn, Seg.row, a1, a2, a3, a4]
 refine rng_loop s.points.length (fun j => ⟨fr [(1, .ptr (0, 1) 0 0 0), (29, .sl (s.points.map Pt.row)), (30, di s.points.length), (31, di j)], Hp.none.put (0, 1) ⟨0, 7, [s.row]⟩⟩) (fun j => ((List.range s.points.length).drop j).any (ptBad s.points) = b) (weak1 (by simp only [↓vp, vv, ↓reduceIte, simprocAttr, coverS]) (by simp only [↓vp, vv, ↓reduceIte, simprocAttr, refsF]) (by simp only [↓vp, vv, ↓reduceIte, simprocAttr, Seg.row]) (by simp only [↓vp, vv, ↓reduceIte, simprocAttr, ])) hb (fun j hj he => ?_) (fun he => ?_)
 ·have hj' : (j : Int) < s.points.length := by omega
  have hn := idx_nn j
  have w1 := idx_next (j := j) (by omega)
  have hjl : j < (List.range s.points.length).length := by simpa using hj
  obtain ⟨hf, ht⟩ := drop_any hjl he
  rw [range_at, pt_at hj] at hf ht
  have hg := getD_map Pt.row s.points j hj
  have hpr : 0 < j → (s.points.map Pt.row).getD (j - 1) [] = (s.points.getD (j - 1) ⟨0, 0, 0⟩).row := fun h => by
   have h' : j - 1 < s.points.length := by omega
   rw [getD_map Pt.row s.points (j - 1) h', getD_lt h']
  generalize s.points[j] = x at hf ht hg
  generalize s.points.getD (j - 1) ⟨0, 0, 0⟩ = y at hf ht hpr
  have bad : b = true → pipeB s = false := fun h => by rw [hp, h]; rfl
  cases b1 : inB x.height (-500) 5000 with
  | false =>
   have e1 := bad (hf (by rw [b1]; rfl))
   simp (maxSteps:=500000) only [↓vp, vv, ↓reduceIte, simprocAttr, c167, r167, c167_1, c167_2, c167_3, c167_4, c167_5, TI, selIn, hj', hn, Int.toNat_natCast, hg, Pt.row, b1, e1, Pu]
  | true =>
  cases b2 : inB x.limit 0 100000000 with
  | false =>
   have e1 := bad (hf (by rw [b1, b2]; rfl))
   simp (maxSteps:=500000) only [↓vp, vv, ↓reduceIte, simprocAttr, c167, r167, c167_1, c167_2, c167_3, c167_4, c167_5, TI, selIn, hj', hn, Int.toNat_natCast, hg, Pt.row, b1, b2, e1, Pu]
  | true =>
  by_cases b3 : 0 < j
  ·have b3' : (0 : Int) < j := by omega
   have w2 : IntKind.i64.wrap ((j : Int) - 1) = ((j - 1 : Nat) : Int) := by rw [wrap_i (by omega)]; omega
   have hn2 := idx_nn (j - 1)
   have hj2 : ((j - 1 : Nat) : Int) < s.points.length := by omega
   have hpr' := hpr b3
   cases b4 : decide (x.at' ≤ y.at') with
   | true =>
    have e1 := bad (hf (by rw [b1, b2, b4]; simp [b3]))
    simp (maxSteps:=500000) only [↓vp, vv, ↓reduceIte, simprocAttr, c167, r167, c167_1, c167_2, c167_3, c167_4, c167_5, TI, selIn, hj', hn, Int.toNat_natCast, hg, Seg.row, Pt.row, b1, b2, b3', w2, hn2, hj2, hpr', b4, e1, Pu]
   | false =>
    simp (maxSteps:=500000) only [↓vp, vv, ↓reduceIte, simprocAttr, c167, r167, c167_1, c167_2, c167_3, c167_4, c167_5, TI, selIn, hj', hn, Int.toNat_natCast, hg, Seg.row, Pt.row, b1, b2, b3', w2, hn2, hj2, hpr', b4, w1]
    exact rng_next hj (weak1 (by simp only [↓vp, vv, ↓reduceIte, simprocAttr, coverS, Pt.row, w1]) (by simp only [↓vp, vv, ↓reduceIte, simprocAttr, refsF]) (by simp only [↓vp, vv, ↓reduceIte, simprocAttr, Seg.row]) (by simp only [↓vp, vv, ↓reduceIte, simprocAttr, ])) (ht (by rw [b1, b2, b4]; simp))
  ·have b3' : ¬ (0 : Int) < j := by omega
   simp (maxSteps:=500000) only [↓vp, vv, ↓reduceIte, simprocAttr, c167, r167, c167_1, c167_2, c167_3, c167_4, c167_5, TI, selIn, hj', hn, Int.toNat_natCast, hg, Seg.row, Pt.row, b1, b2, b3', w1, decide_false]
   exact rng_next hj (weak1 (by simp only [↓vp, vv, ↓reduceIte, simprocAttr, coverS, Pt.row, w1]) (by simp only [↓vp, vv, ↓reduceIte, simprocAttr, refsF]) (by simp only [↓vp, vv, ↓reduceIte, simprocAttr, Seg.row]) (by simp only [↓vp, vv, ↓reduceIte, simprocAttr, ])) (ht (by rw [b1, b2]; simp [b3]))
 ·have e1 : b = false := drop_any_end (by simp) he
  rw [e1] at hp
  simp only [Bool.false_eq_true, if_false] at hp
  have h0 : (s.points.map Pt.row).getD 0 [] = (s.points.getD 0 ⟨0, 0, 0⟩).row := by rw [getD_map Pt.row s.points 0 (by omega), getD_lt (by omega)]
  have h9 : (s.points.map Pt.row).getD (s.points.length - 1) [] = (s.points.getD (s.points.length - 1) ⟨0, 0, 0⟩).row := by rw [getD_map Pt.row s.points (s.points.length - 1) (by omega), getD_lt (by omega)]
  generalize s.points.getD 0 ⟨0, 0, 0⟩ = x at hp h0
  generalize s.points.getD (s.points.length - 1) ⟨0, 0, 0⟩ = y at hp h9
  have w2 : IntKind.i64.wrap ((s.points.length : Int) - 1) = ((s.points.length - 1 : Nat) : Int) := by rw [wrap_i (by omega)]; omega
  have hn2 := idx_nn (s.points.length - 1)
  have hj2 : ((s.points.length - 1 : Nat) : Int) < s.points.length := by omega
  have hj0 : (0 : Int) < s.points.length := by omega
  have hlt' : ¬ (s.points.length : Int) < s.points.length := by omega
  cases b1 : (x.at' == 0) with
  | false =>
   rw [b1] at hp
   simp (maxSteps:=500000) only [↓vp, vv, ↓reduceIte, simprocAttr, c167, r167, c167_1, c167_2, c167_3, c167_4, c167_5, TI, selIn, Seg.row, Pt.row, Int.lt_irrefl, hj0, h0, b1, hp, Pu]
  | true =>
   rw [b1, if_pos rfl] at hp
   simp (maxSteps:=500000) only [↓vp, vv, ↓reduceIte, simprocAttr, c167, r167, c167_1, c167_2, c167_3, c167_4, c167_5, TI, selIn, Seg.row, Pt.row, Int.lt_irrefl, Int.toNat_natCast, hj0, h0, h9, w2, hn2, hj2, b1, hp, Pu]
def portBad (p : Port) : Bool := !inB p.press 0 100000000
def stnBad (x : Stn) : Bool := if inB x.head 0 100000000 = true then (if inB x.fall 0 100000 = true then !inB x.suct 0 100000000 else true) else true
def segBad (s : Seg) : Bool := !pipeB s
def PtsPos (n : Net) : Prop := ∀ s ∈ n.segs, 1 ≤ s.points.length
def prB (n : Net) : Bool := if n.segs.any segBad = true then false else if n.ports.any portBad = true then false else if n.sts.any stnBad = true then false else if inB n.vap (-100000) 100000000 = true then inB n.set 0 100 else false
def selSegP (out : Seg → D) : List D → Option (Prop × D)
 | [.agg r] => match segOf1 r with
  | some s => some (1 ≤ s.points.length ∧ s.points.length ≤ 1000000, out s)
  | Option.none => Option.none
 | _ => Option.none
def TI2 : Tbl := tc 167 (rowPu (selSegP fun s => db (pipeB s))) TI
theorem TI2_ok : TblOk Try.prog TI2 := by
 refine tc_pu f167_ok (fun args pre d h hp nn => ?_) TI_ok
 unfold selSegP at h
 split at h
 ·split at h
  ·rename_i hm; cases h; rw [segOf1_eq hm]; exact pipe_c _ hp nn
  ·cases h
 ·cases h
set_option maxHeartbeats 2000000 in
theorem pr1_c (s : Seg) (hz : 1 ≤ s.points.length ∧ s.points.length ≤ 1000000) (nn : Nm) : CallsA Try.prog 166 [.agg s.row] Hp.none nn (Pu (db (segBad s)) Hp.none) := by
 obtain ⟨code, h1, h2⟩ := c166_ok
 refine callsA_of TI2_ok mixed (N := fun t => (0, t)) Try.func166 h1 h2 r166_ok [] false js_nil js_nil' (by simp [Try.f166]) ?_
 have hs : segOf1 [ds s.name, di s.fr, di s.to, di s.cap, di s.resist, di s.wave, .sl (s.points.map Pt.row)] = some s := segOf1_row s
 simp (maxSteps:=500000) only [↓vp, vv, ↓reduceIte, simprocAttr, c166, r166, TI2, selSegP, Seg.row, hs, hz, segBad, Pu]
set_option maxHeartbeats 2000000 in
theorem pr2_c (p : Port) (nn : Nm) : CallsA Try.prog 169 [.agg p.row] Hp.none nn (Pu (db (portBad p)) Hp.none) := by
 obtain ⟨code, h1, h2⟩ := c169_ok
 refine callsA_of TI_ok mixed (N := fun t => (0, t)) Try.func169 h1 h2 r169_ok [] false js_nil js_nil' (by simp [Try.f169]) ?_
 simp (maxSteps:=500000) only [↓vp, vv, ↓reduceIte, simprocAttr, c169, r169, TI, selIn, Port.row, portBad, Pu]
set_option maxHeartbeats 2000000 in
theorem pr3_c (x : Stn) (nn : Nm) : CallsA Try.prog 172 [.agg x.row] Hp.none nn (Pu (db (stnBad x)) Hp.none) := by
 obtain ⟨code, h1, h2⟩ := c172_ok
 refine callsA_of TI_ok mixed (N := fun t => (0, t)) Try.func172 h1 h2 r172_ok [] false js_nil js_nil' (by simp [Try.f172]) ?_
 cases a1 : inB x.head 0 100000000 with
 | false => simp (maxSteps:=500000) only [↓vp, vv, ↓reduceIte, simprocAttr, c172, r172, TI, selIn, Stn.row, stnBad, a1, Pu]
 | true =>
  cases a2 : inB x.fall 0 100000 with
  | false => simp (maxSteps:=500000) only [↓vp, vv, ↓reduceIte, simprocAttr, c172, r172, TI, selIn, Stn.row, stnBad, a1, a2, Pu]
  | true => simp (maxSteps:=500000) only [↓vp, vv, ↓reduceIte, simprocAttr, c172, r172, TI, selIn, Stn.row, stnBad, a1, a2, Pu]
def TPr (P : Program) : Tbl := tc 159 (rowPu (selQ P true 7 (fun g l => qRow segOf1 segBad) outC)) (tc 168 (rowPu (selQ P true 3 (fun g l => qRow portOf1 portBad) outC)) (tc 171 (rowPu (selQ P true 5 (fun g l => qRow stnOf1 stnBad) outC)) TI))
theorem tc_cf {P : Program} {ag : Bool} {sz : Nat} {f : FuncId} {q : FuncId → List (List D) → D → Bool} {T : Tbl} (hf : fnOk P f = true) (h : ∀ (q : D → Bool) (g : FuncId) (l rows : List (List D)), QOk P ag sz q g l rows → ∀ nn, CallsA P f [.sl rows, .clo g [] (ips l)] Hp.none nn (Pu (outC (fun r => q (elV ag r)) rows) Hp.none)) (hT : TblOk P T) : TblOk P (tc f (rowPu (selQ P ag sz q outC)) T) :=
 tc_pu hf (fun args pre d hs hp nn => by
  unfold selQ at hs
  split at hs
  ·split at hs
   ·rename_i hi
    cases hs
    rw [ipsOf_eq hi]
    exact h _ _ _ _ hp nn
   ·cases hs
  ·cases hs) hT
theorem TPr_ok : TblOk Try.prog (TPr Try.prog) := tc_cf f159_ok (fun q g l rows h nn => hasF_G q g l rows h nn) (tc_cf f168_ok (fun q g l rows h nn => hasF_P q g l rows h nn) (tc_cf f171_ok (fun q g l rows h nn => hasF_N q g l rows h nn) TI_ok))
theorem outC_rows {α : Type} (f : List D → Option α) (g : α → List D) (q : α → Bool) (h : ∀ x, f (g x) = some x) (l : List α) : outC (fun r => qRow f q (elV true r)) (l.map g) = db (l.any q) := by
 have e : ((fun r => qRow f q (elV true r)) ∘ g) = q := funext fun x => qRow_agg (h x)
 unfold outC
 rw [List.any_map, e]
set_option maxHeartbeats 4000000 in
theorem proper_c (n : Net) (hz : NetSz n) (hp : PtsPos n) (nn : Nm) : CallsA Try.prog 138 [n.enc] Hp.none nn (Pu (db (prB n)) Hp.none) := by
 obtain ⟨code, h1, h2⟩ := c138_ok
 refine callsA_of TPr_ok mixed (N := fun t => (0, t)) Try.func138 h1 h2 r138_ok [] false js_nil js_nil' (by simp [Try.f138]) ?_
 have q1 : QOk Try.prog true 7 (qRow segOf1 segBad) 166 [] (n.segs.map Seg.row) := by
  refine ⟨f166_ok, by simp; have := hz.segs; omega, fun r hr => ?_⟩
  obtain ⟨x, hx, rfl⟩ := List.mem_map.1 hr
  refine ⟨rfl, x.done, fun h => Bool.noConfusion h, fun nn => ?_⟩
  have := pr1_c x ⟨hp x hx, hz.pts x hx⟩ nn
  rw [← qRow_agg (q := segBad) (segOf1_row x)] at this
  exact this
 have q2 : QOk Try.prog true 3 (qRow portOf1 portBad) 169 [] (n.ports.map Port.row) := by
  refine ⟨f169_ok, by simp; have := hz.ports; omega, fun r hr => ?_⟩
  obtain ⟨x, _, rfl⟩ := List.mem_map.1 hr
  exact ⟨rfl, x.done, fun h => Bool.noConfusion h, fun nn => pr2_c x nn⟩
 have q3 : QOk Try.prog true 5 (qRow stnOf1 stnBad) 172 [] (n.sts.map Stn.row) := by
  refine ⟨f172_ok, by simp; have := hz.sts; omega, fun r hr => ?_⟩
  obtain ⟨x, _, rfl⟩ := List.mem_map.1 hr
  exact ⟨rfl, x.done, fun h => Bool.noConfusion h, fun nn => pr3_c x nn⟩
 have o1 := outC_rows segOf1 Seg.row segBad segOf1_row n.segs
 have o2 := outC_rows portOf1 Port.row portBad portOf1_row n.ports
 have o3 := outC_rows stnOf1 Stn.row stnBad stnOf1_row n.sts
 cases a1 : n.segs.any segBad with
 | true => rw [a1] at o1; simp (maxSteps:=500000) only [↓vp, vv, ↓reduceIte, simprocAttr, c138, r138, c138_1, c138_2, c138_3, TPr, TI, selQ, ipsOf, Net.enc, q1, o1, a1, prB, Pu]
 | false =>
 rw [a1] at o1
 cases a2 : n.ports.any portBad with
 | true => rw [a2] at o2; simp (maxSteps:=500000) only [↓vp, vv, ↓reduceIte, simprocAttr, c138, r138, c138_1, c138_2, c138_3, TPr, TI, selQ, ipsOf, Net.enc, q1, q2, o1, o2, a1, a2, prB, Pu]
 | false =>
 rw [a2] at o2
 cases a3 : n.sts.any stnBad with
 | true => rw [a3] at o3; simp (maxSteps:=500000) only [↓vp, vv, ↓reduceIte, simprocAttr, c138, r138, c138_1, c138_2, c138_3, TPr, TI, selQ, ipsOf, Net.enc, q1, q2, q3, o1, o2, o3, a1, a2, a3, prB, Pu]
 | false =>
 rw [a3] at o3
 cases a4 : inB n.vap (-100000) 100000000 with
 | false => simp (maxSteps:=500000) only [↓vp, vv, ↓reduceIte, simprocAttr, c138, r138, c138_1, c138_2, c138_3, TPr, TI, selIn, selQ, ipsOf, Net.enc, q1, q2, q3, o1, o2, o3, a1, a2, a3, a4, prB, Pu]
 | true => simp (maxSteps:=500000) only [↓vp, vv, ↓reduceIte, simprocAttr, c138, r138, c138_1, c138_2, c138_3, TPr, TI, selIn, selQ, ipsOf, Net.enc, q1, q2, q3, o1, o2, o3, a1, a2, a3, a4, prB, Pu]
def nmBad (s : ByteArray) : Bool := !nameB s
def selNm : List D → Option (Prop × D)
 | [.v (.string s)] => some (True, db (nameB s))
 | _ => Option.none
def TN1 : Tbl := tc 67 (rowPu selNm) (tc 68 (rowPu selNm) T0)
theorem TN1_ok : TblOk Try.prog TN1 := by
 refine tc_pu f67_ok (fun args pre d h hp nn => ?_) (tc_pu f68_ok (fun args pre d h hp nn => ?_) (T0_ok _))
 ·unfold selNm at h
  split at h <;> cases h
  exact lname_c _ nn
 ·unfold selNm at h
  split at h <;> cases h
  exact rname_c _ nn
theorem ck1_c (s : ByteArray) (nn : Nm) : CallsA Try.prog 135 [ds s] Hp.none nn (Pu (db (nmBad s)) Hp.none) := by
 obtain ⟨code, h1, h2⟩ := c135_ok
 refine callsA_of TN1_ok mixed (N := fun t => (0, t)) Try.func135 h1 h2 r135_ok [] false js_nil js_nil' (by simp [Try.f135]) ?_
 simp (maxSteps:=500000) only [↓vp, vv, ↓reduceIte, simprocAttr, c135, r135, TN1, selNm, nmBad, Pu]
def formBad (n : Net) : Bool := (nms4 n).any fun l => l.any nmBad
def checkI (n : Net) : Int := if limB n = true then (if formBad n = true then 3 else if twB n = true then 7 else if knB n = true then (if prB n = true then 0 else 9) else 8) else 4
def selNetP (out : Net → D) : List D → Option (Prop × D)
 | [.agg r] => match netOf1 r with
  | some n => some (NetSz n ∧ PtsPos n, out n)
  | Option.none => Option.none
 | _ => Option.none
def TC (P : Program) : Tbl := tc 132 (rowPu (selNet fun n => db (limB n))) (tc 133 (rowPu (selNet nmsD)) (tc 134 (rowPu (selQ P false 1 (fun g l => qRow nmOf1 nmBad) outC)) (tc 136 (rowPu (selNet fun n => db (twB n))) (tc 137 (rowPu (selNet fun n => db (knB n))) (tc 138 (rowPu (selNetP fun n => db (prB n))) T0)))))
theorem TC_ok : TblOk Try.prog (TC Try.prog) := by
 refine tc_netf f132_ok limits_c (tc_netf f133_ok (fun n hz nn => pnames_c n hz.segs hz.ports hz.sts nn) (tc_cf f134_ok (fun q g l rows h nn => hasF_S q g l rows h nn) (tc_netf f136_ok twice_c (tc_netf f137_ok known_c (tc_pu f138_ok (fun args pre d hs hp nn => ?_) (T0_ok _))))))
 unfold selNetP at hs
 split at hs
 ·split at hs
  ·rename_i n hn
   cases hs
   rw [netOf1_eq hn]
   exact proper_c _ hp.1 hp.2 nn
  ·cases hs
 ·cases hs
theorem lim_pts {n : Net} (h : limB n = true) : PtsPos n ∧ ∀ s ∈ n.segs, 2 ≤ s.points.length ∧ s.points.length ≤ 8 := by
 have h' : n.segs.any ptsBad = false := by
  unfold limB at h
  repeat (split at h; · cases h)
  simpa using h
 have k : ∀ s ∈ n.segs, 2 ≤ s.points.length ∧ s.points.length ≤ 8 := fun s hs => by
  have : ptsBad s = false := by
   cases hp : ptsBad s with
   | false => rfl
   | true => rw [List.any_eq_true.2 ⟨s, hs, hp⟩] at h'; cases h'
  unfold ptsBad at this
  split at this
  ·cases this
  ·rename_i h1
   simp at h1 this
   omega
 exact ⟨fun s hs => by have := k s hs; omega, k⟩
set_option maxHeartbeats 4000000 in
theorem check_c (n : Net) (hz : NetSz n) (nn : Nm) : CallsA Try.prog 95 [n.enc] Hp.none nn (Pu (di (checkI n)) Hp.none) := by
 obtain ⟨code, h1, h2⟩ := c95_ok
 refine callsA_of TC_ok mixed (N := fun t => (0, t)) Try.func95 h1 h2 r95_ok [] false js_nil js_nil' (by simp [Try.f95]) ?_
 have hn1 := netOf1_x n
 cases a1 : limB n with
 | false => simp (maxSteps:=500000) only [↓vp, vv, ↓reduceIte, simprocAttr, c95, r95, c95_1, c95_2, c95_3, c95_4, c95_5, c95_6, TC, selNet, Net.enc, hn1, hz, a1, checkI, Pu]
 | true =>
 have hp := (lim_pts a1).1
 generalize hb : formBad n = b
 have hc : checkI n = if b = true then 3 else if twB n = true then 7 else if knB n = true then (if prB n = true then 0 else 9) else 8 := by unfold checkI; rw [a1, hb]; rfl
 simp (maxSteps:=500000) only [↓vp, vv, ↓reduceIte, simprocAttr, c95, c95_6, TC, selNet, Net.enc, hn1, hz, a1]
 refine rng_loop 4 (fun j => ⟨fr [(1, .ptr (0, 1) 0 0 0), (9, nmsD n), (10, di j)], netH n⟩) (fun j => ((nms4 n).drop j).any (fun l => l.any nmBad) = b) (weak1 (by simp only [↓vp, vv, ↓reduceIte, simprocAttr, coverS]) (by simp only [↓vp, vv, ↓reduceIte, simprocAttr, refsF, nmsD]) (by simp only [↓vp, vv, ↓reduceIte, simprocAttr, netD]) (by simp only [↓vp, vv, ↓reduceIte, simprocAttr, ])) hb (fun j hj he => ?_) (fun he => ?_)
 ·have hj' : (j : Int) < 4 := by omega
  have hn := idx_nn j
  have w1 := idx_next (j := j) (by omega)
  have hjl : j < (nms4 n).length := by rw [nms4_len]; exact hj
  obtain ⟨hf, ht⟩ := drop_any hjl he
  have hg := getD_any (fun l => D.sl (List.map nmRow l)) (nms4 n) j hjl
  have hl := nms4_small hz _ (List.getElem_mem hjl)
  generalize (nms4 n)[j] = l at hf ht hg hl
  have hcl2 : j * 1 + 1 ≤ (nms4 n).length := by rw [nms4_len]; omega
  have hq : QOk Try.prog false 1 (qRow nmOf1 nmBad) 135 [] (l.map nmRow) := by
   refine ⟨f135_ok, by simp; omega, fun r hr => ?_⟩
   obtain ⟨x, _, rfl⟩ := List.mem_map.1 hr
   exact ⟨rfl, rfl, fun _ => ⟨_, rfl⟩, fun nn => ck1_c x nn⟩
  have ho : outC (fun r => qRow nmOf1 nmBad (elV false r)) (l.map nmRow) = db (l.any nmBad) := by
   unfold outC
   rw [List.any_map]
   rfl
  have hcl3 : j + 1 ≤ (nms4 n).length := by omega
  cases hd : l.any nmBad with
  | true =>
   have e1 := hf hd
   rw [e1] at hc
   rw [hd] at ho
   have hc3 : checkI n = 3 := hc
   simp (maxSteps:=500000) only [↓vp, vv, ↓reduceIte, simprocAttr, c95, r95, c95_1, c95_2, c95_3, c95_4, c95_5, c95_6, TC, selQ, ipsOf, netH, netD, nmsD_map, hj', hn, Int.toNat_natCast, hcl2, hcl3, Nat.mul_one, hg, hq, ho, hc3, Pu]
  | false =>
   rw [hd] at ho
   simp (maxSteps:=500000) only [↓vp, vv, ↓reduceIte, simprocAttr, c95, r95, c95_1, c95_2, c95_3, c95_4, c95_5, c95_6, TC, selQ, ipsOf, netH, netD, nmsD_map, hj', hn, Int.toNat_natCast, hcl2, hcl3, Nat.mul_one, hg, hq, ho, w1]
   exact rng_next hj (weak1 (by simp only [↓vp, vv, ↓reduceIte, simprocAttr, coverS, nmsD, nms4, w1]) (by simp only [↓vp, vv, ↓reduceIte, simprocAttr, refsF, nmsD, nms4]) (by simp only [↓vp, vv, ↓reduceIte, simprocAttr, netD]) (by simp only [↓vp, vv, ↓reduceIte, simprocAttr, netD])) (ht hd)
 ·have e1 : b = false := drop_any_end (nms4_len n).symm he
  rw [e1] at hc
  simp only [Bool.false_eq_true, if_false] at hc
  cases a2 : twB n with
  | true =>
   rw [a2] at hc
   have hc3 : checkI n = 7 := hc
   simp (maxSteps:=500000) only [↓vp, vv, ↓reduceIte, simprocAttr, c95, r95, c95_1, c95_2, c95_3, c95_4, c95_5, c95_6, TC, selNet, netH, netD, hn1, hz, Int.lt_irrefl, a2, hc3, Pu]
  | false =>
  cases a3 : knB n with
  | false =>
   rw [a2, a3] at hc
   have hc3 : checkI n = 8 := hc
   simp (maxSteps:=500000) only [↓vp, vv, ↓reduceIte, simprocAttr, c95, r95, c95_1, c95_2, c95_3, c95_4, c95_5, c95_6, TC, selNet, netH, netD, hn1, hz, Int.lt_irrefl, a2, a3, hc3, Pu]
  | true =>
  cases a4 : prB n with
  | false =>
   rw [a2, a3, a4] at hc
   have hc3 : checkI n = 9 := hc
   simp (maxSteps:=500000) only [↓vp, vv, ↓reduceIte, simprocAttr, c95, r95, c95_1, c95_2, c95_3, c95_4, c95_5, c95_6, TC, selNet, selNetP, netH, netD, hn1, hz, hp, Int.lt_irrefl, a2, a3, a4, hc3, Pu]
  | true =>
   rw [a2, a3, a4] at hc
   have hc3 : checkI n = 0 := hc
   simp (maxSteps:=500000) only [↓vp, vv, ↓reduceIte, simprocAttr, c95, r95, c95_1, c95_2, c95_3, c95_4, c95_5, c95_6, TC, selNet, selNetP, netH, netD, hn1, hz, hp, Int.lt_irrefl, a2, a3, a4, hc3, Pu]
def selNetW (ok : Net → Prop) (out : Net → D) : List D → Option (Prop × D)
 | [.agg r] => match netOf1 r with
  | some n => some (ok n, out n)
  | Option.none => Option.none
 | _ => Option.none
theorem tc_netw {f : FuncId} {ok : Net → Prop} {out : Net → D} {T : Tbl} (hf : fnOk Try.prog f = true) (h : ∀ n, ok n → ∀ nn, CallsA Try.prog f [n.enc] Hp.none nn (Pu (out n) Hp.none)) (hT : TblOk Try.prog T) : TblOk Try.prog (tc f (rowPu (selNetW ok out)) T) :=
 tc_pu hf (fun args pre d hs hp nn => by
  unfold selNetW at hs
  split at hs
  ·split at hs
   ·rename_i n hn
    cases hs
    rw [netOf1_eq hn]
    exact h _ hp nn
   ·cases hs
  ·cases hs) hT
theorem sz_of_lim {n : Net} (h : limB n = true) : NetSz n := by
 have h2 := (lim_pts h).2
 unfold limB at h
 repeat (split at h; · cases h)
 exact ⟨by omega, by omega, by omega, by omega, fun s hs => by have := h2 s hs; omega⟩
set_option maxHeartbeats 4000000 in
theorem check_w (n : Net) (nn : Nm) : CallsA Try.prog 95 [n.enc] Hp.none nn (Pu (di (checkI n)) Hp.none) := by
 cases a1 : limB n with
 | true => exact check_c n (sz_of_lim a1) nn
 | false =>
  obtain ⟨code, h1, h2⟩ := c95_ok
  refine callsA_of (tc_netw (ok := fun _ => True) f132_ok (fun n _ nn => limits_w n nn) (T0_ok _)) mixed (N := fun t => (0, t)) Try.func95 h1 h2 r95_ok [] false js_nil js_nil' (by simp [Try.f95]) ?_
  have hn1 := netOf1_x n
  simp (maxSteps:=500000) only [↓vp, vv, ↓reduceIte, simprocAttr, c95, r95, c95_1, c95_2, c95_3, c95_4, c95_5, c95_6, selNetW, Net.enc, hn1, a1, checkI, Pu]
theorem net_sz {n : Net} (h : NetOk n) : NetSz n := by
 have h1 := h.nlen
 have h2 := h.slen
 have h3 := h.ports.len
 have h4 := h.sts.len
 refine ⟨by omega, by omega, by omega, by omega, fun s hs => ?_⟩
 obtain ⟨j, a, b, _, _, _, hk, _⟩ := h.segs.mem hs
 have := hk.len
 omega
theorem nm_two (c : UInt8) (j : Nat) (h : j < 26) : nm1B ⟨#[c]⟩ (j : Int) = ⟨#[c, UInt8.ofNat (97 + j)]⟩ := by
 have e : (j : Int).tmod 26 = j := by rw [Int.tmod_eq_emod_of_nonneg (by omega)]; omega
 have e2 : IntKind.i64.wrap (97 + (j : Int)) = 97 + j := wrap_i (by omega)
 have e3 : IntKind.u8.wrap (97 + (j : Int)) = 97 + j := by
  simp [IntKind.wrap, IntKind.signed, IntKind.bits]
  omega
 unfold nm1B
 rw [e, e2, e3]
 have e4 : (97 + (j : Int)).toNat = 97 + j := by omega
 simp only [strOf, List.foldl_cons, List.foldl_nil, e4]
 rfl
theorem toList_two (a b : UInt8) : (ByteArray.mk #[a, b]).toList = [a, b] := by rw [ba_toList]
theorem nm_ne (c : UInt8) (i j : Nat) (hi : i < 26) (hj : j < 26) (h : i ≠ j) : eqS (nm1B ⟨#[c]⟩ (i : Int)) (nm1B ⟨#[c]⟩ (j : Int)) = false := by
 rw [nm_two c i hi, nm_two c j hj]
 unfold eqS
 rw [toList_two, toList_two]
 refine beq_false_of_ne fun e => h ?_
 simp at e
 have := congrArg UInt8.toNat e
 simp at this
 omega
theorem nm_good : ∀ c ∈ [(110 : UInt8), 103, 113, 115], ∀ j, j < 26 → nameB ⟨#[c, UInt8.ofNat (97 + j)]⟩ = true := by decide
theorem dup_nm (c : UInt8) {l : List ByteArray} (h : AllI (fun j s => s = nm1B ⟨#[c]⟩ (j : Int)) l) (hl : l.length ≤ 26) : dupB eqS l = false := by
 unfold dupB
 rw [List.any_eq_false]
 intro i hi
 have hi : i < l.length := List.mem_range.1 hi
 rw [dup_at hi]
 refine fun hc => ?_
 rw [List.any_eq_true] at hc
 obtain ⟨y, hy, he⟩ := hc
 obtain ⟨k, hk⟩ := List.getElem?_of_mem hy
 have hkl : k < (l.take i).length := by
  rcases Nat.lt_or_ge k (l.take i).length with h | h
  ·exact h
  ·rw [List.getElem?_eq_none h] at hk; cases hk
 rw [List.length_take] at hkl
 rw [List.getElem?_take_of_lt (by omega)] at hk
 rw [h k y hk, h i l[i] (List.getElem?_eq_getElem hi), nm_ne c i k (by omega) (by omega) (by omega)] at he
 cases he
theorem form_nm (c : UInt8) (hc : c ∈ [(110 : UInt8), 103, 113, 115]) {l : List ByteArray} (h : AllI (fun j s => s = nm1B ⟨#[c]⟩ (j : Int)) l) (hl : l.length ≤ 26) : l.any nmBad = false := by
 rw [List.any_eq_false]
 intro s hs hb
 obtain ⟨j, hj⟩ := List.getElem?_of_mem hs
 have hjl : j < l.length := by
  rcases Nat.lt_or_ge j l.length with h | h
  ·exact h
  ·rw [List.getElem?_eq_none h] at hj; cases hj
 rw [h j s hj, nm_two c j (by omega)] at hb
 unfold nmBad at hb
 rw [nm_good c hc j (by omega)] at hb
 cases hb
theorem AllI.map {α β : Type} {P : Nat → β → Prop} {Q : Nat → α → Prop} {l : List α} (f : α → β) (h : AllI Q l) (hq : ∀ j x, Q j x → P j (f x)) : AllI P (l.map f) := fun j y hj => by
 rw [List.getElem?_map] at hj
 cases hx : l[j]? with
 | none => rw [hx] at hj; cases hj
 | some x => rw [hx] at hj; cases hj; exact hq j x (h j x hx)
theorem inB_t {a b c : Int} (h1 : b ≤ a) (h2 : a ≤ c) : inB a b c = true := by unfold inB; rw [if_pos (decide_eq_true h1)]; exact decide_eq_true h2
theorem pair_lt {α : Type} {R : α → α → Prop} {l : List α} (h : l.Pairwise R) {i j : Nat} (hij : i < j) (hj : j < l.length) : R (l[i]'(by omega)) l[j] := List.pairwise_iff_getElem.1 h i j (by omega) hj hij
theorem head_at {α : Type} {l : List α} (h : 0 < l.length) (d : α) : l.head? = some (l.getD 0 d) := by
 cases l with
 | nil => cases h
 | cons => rfl
theorem last_at {α : Type} {l : List α} (h : 0 < l.length) (d : α) : l.getLast? = some (l.getD (l.length - 1) d) := by
 rw [List.getLast?_eq_getElem?, List.getD_eq_getElem?_getD, List.getElem?_eq_getElem (show l.length - 1 < l.length by omega)]
 rfl
theorem pipe_ok {k a b : Int} {s : Seg} (h : SegOk k a b s) (hab : a < b) : pipeB s = true := by
 have hc := h.cap
 have hr := h.res
 have hw := h.wav
 have hl := h.len
 have e0 : (s.fr == s.to) = false := beq_false_of_ne (by rcases h.ends with ⟨h1, h2⟩ | ⟨h1, h2⟩ <;> omega)
 have e1 : (List.range s.points.length).any (ptBad s.points) = false := by
  rw [List.any_eq_false]
  intro i hi
  have hi : i < s.points.length := List.mem_range.1 hi
  obtain ⟨a1, a2, a3, a4⟩ := h.pts.le _ (List.getElem_mem hi)
  rw [pt_at hi, if_pos (inB_t a1 a2), if_pos (inB_t a3 a4)]
  by_cases h0 : 0 < i
  ·rw [if_pos h0]
   have := pair_lt h.pts.asc (show i - 1 < i by omega) hi
   rw [getD_lt (show i - 1 < s.points.length by omega)]
   simp
   omega
  ·rw [if_neg h0]; simp
 have e2 : (s.points.getD 0 ⟨0, 0, 0⟩).at' = 0 := by
  have := h.pts.hd
  rw [head_at (show 0 < s.points.length by omega) ⟨0, 0, 0⟩] at this
  simpa using this
 have e3 : (s.points.getD (s.points.length - 1) ⟨0, 0, 0⟩).at' = s.cap := by
  have := h.pts.last
  rw [last_at (show 0 < s.points.length by omega) ⟨0, 0, 0⟩] at this
  simpa using this
 unfold pipeB
 rw [e0, inB_t hc.1 (by omega), inB_t hr.1 hr.2, inB_t hw.1 hw.2, e1, e2, e3]
 simp
theorem check_ok {n : Net} (h : NetOk n) : checkI n = 0 := by
 have h1 := h.nlen
 have h2 := h.slen
 have h3 := h.ports.len
 have h4 := h.sts.len
 have l1 : limB n = true := by
  have : n.segs.any ptsBad = false := by
   rw [List.any_eq_false]
   intro s hs
   obtain ⟨j, a, b, _, _, _, hk, _⟩ := h.segs.mem hs
   have := hk.len
   unfold ptsBad
   rw [if_neg (by simp; omega)]
   simp
   omega
  unfold limB
  rw [if_neg (by omega), if_neg (by omega), if_neg (by omega), if_neg (by omega), if_neg (by omega), this]
  rfl
 have n1 : AllI (fun j s => s = nm1B ⟨#[110]⟩ (j : Int)) n.nodes := h.nodes
 have n2 : AllI (fun j s => s = nm1B ⟨#[103]⟩ (j : Int)) (n.segs.map (·.name)) := h.segs.map _ fun j x hx => by
  obtain ⟨a, b, _, _, _, hk, _⟩ := hx
  exact hk.name
 have n3 : AllI (fun j s => s = nm1B ⟨#[113]⟩ (j : Int)) (n.ports.map (·.name)) := h.ports.all.map _ fun j x hx => hx.1
 have n4 : AllI (fun j s => s = nm1B ⟨#[115]⟩ (j : Int)) (n.sts.map (·.name)) := h.sts.all.map _ fun j x hx => hx.1
 have f1 : formBad n = false := by
  unfold formBad nms4
  simp only [List.any_cons, List.any_nil]
  rw [form_nm 110 (by decide) n1 (by omega), form_nm 103 (by decide) n2 (by rw [List.length_map]; omega), form_nm 113 (by decide) n3 (by rw [List.length_map]; omega), form_nm 115 (by decide) n4 (by rw [List.length_map]; omega)]
  rfl
 have t1 : twB n = false := by
  have hd : [n.nodes, n.segs.map (·.name), n.ports.map (·.name), n.sts.map (·.name)].any (dupB eqS) = false := by
   simp only [List.any_cons, List.any_nil]
   rw [dup_nm 110 n1 (by omega), dup_nm 103 n2 (by rw [List.length_map]; omega), dup_nm 113 n3 (by rw [List.length_map]; omega), dup_nm 115 n4 (by rw [List.length_map]; omega)]
   rfl
  unfold twB nms4
  rw [if_neg (by rw [hd]; simp)]
  unfold dupB
  rw [List.any_eq_false]
  intro i hi
  have hi : i < n.sts.length := List.mem_range.1 hi
  rw [dup_at hi]
  refine fun hc => ?_
  rw [List.any_eq_true] at hc
  obtain ⟨y, hy, he⟩ := hc
  obtain ⟨k, hk⟩ := List.getElem?_of_mem hy
  have hkl : k < (n.sts.take i).length := by
   rcases Nat.lt_or_ge k (n.sts.take i).length with h | h
   ·exact h
   ·rw [List.getElem?_eq_none h] at hk; cases hk
  rw [List.length_take] at hkl
  rw [List.getElem?_take_of_lt (by omega), List.getElem?_eq_getElem (by omega)] at hk
  cases hk
  have := pair_lt h.sts.asc (show k < i by omega) hi
  have := beq_iff_eq.1 he
  omega
 have k1 : knB n = true := by
  have : (allIx n).any (unk n) = false := by
   rw [List.any_eq_false]
   intro k hk
   have key : 0 ≤ k ∧ k < n.nodes.length := by
    unfold allIx at hk
    rcases List.mem_append.1 hk with hk | hk
    ·rcases List.mem_append.1 hk with hk | hk
     ·obtain ⟨s, hs, hk⟩ := List.mem_flatMap.1 hk
      obtain ⟨j, a, b, x1, x2, x3, hx, _⟩ := h.segs.mem hs
      have hk : k = s.fr ∨ k = s.to := by simpa [endsOf] using hk
      rcases hx.ends with ⟨e1, e2⟩ | ⟨e1, e2⟩ <;> omega
     ·obtain ⟨s, hs, hk⟩ := List.mem_map.1 hk
      obtain ⟨j, a, b, c, _⟩ := h.ports.all.mem hs
      omega
    ·obtain ⟨s, hs, hk⟩ := List.mem_map.1 hk
     obtain ⟨j, a, b, c, _⟩ := h.sts.all.mem hs
     omega
   unfold unk
   rw [if_neg (by simp; omega)]
   simp
   omega
  unfold knB
  rw [this]
  rfl
 have p1 : prB n = true := by
  have a1 : n.segs.any segBad = false := by
   rw [List.any_eq_false]
   intro s hs
   obtain ⟨j, a, b, _, hab, _, hk, _⟩ := h.segs.mem hs
   unfold segBad
   rw [pipe_ok hk hab]
   simp
  have a2 : n.ports.any portBad = false := by
   rw [List.any_eq_false]
   intro s hs
   obtain ⟨j, _, _, _, h1, h2⟩ := h.ports.all.mem hs
   unfold portBad
   rw [inB_t h1 h2]
   simp
  have a3 : n.sts.any stnBad = false := by
   rw [List.any_eq_false]
   intro s hs
   obtain ⟨j, _, _, _, h1, h2, h3, h4, h5, h6⟩ := h.sts.all.mem hs
   unfold stnBad
   rw [inB_t h1 h2, inB_t h3 h4, inB_t h5 h6]
   simp
  have hv := h.vap
  have hs := h.set
  unfold prB
  rw [a1, a2, a3, inB_t hv.1 (by omega), inB_t hs.1 hs.2]
  simp
 unfold checkI
 rw [l1, f1, t1, k1, p1]
 rfl
structure Pln where
 rates : List Int
 ports : List Int
 pumps : List Bool
def bRow (b : Bool) : List D := [db b]
def plnD (p : Pln) : List D := [.sl (p.rates.map iRow), .sl (p.ports.map iRow), .sl (p.pumps.map bRow)]
def Pln.enc (p : Pln) : D := .agg (plnD p)
theorem intOf1_row (k : Int) : intOf1 (iRow k) = some k := rfl
theorem intOf1_eq {r : List D} {k : Int} (h : intOf1 r = some k) : r = iRow k := by
 unfold intOf1 at h
 split at h
 ·cases h; rfl
 ·cases h
def boolOf1 : List D → Option Bool
 | [.v (.bool b)] => some b
 | _ => Option.none
theorem boolOf1_row (b : Bool) : boolOf1 (bRow b) = some b := rfl
theorem boolOf1_eq {r : List D} {b : Bool} (h : boolOf1 r = some b) : r = bRow b := by
 unfold boolOf1 at h
 split at h
 ·cases h; rfl
 ·cases h
def sumI {α : Type} (f : α → Int) : List α → Int
 | [] => 0
 | x :: l => f x + sumI f l
theorem sumI_app {α : Type} (f : α → Int) : ∀ (l m : List α), sumI f (l ++ m) = sumI f l + sumI f m
 | [], m => by simp [sumI]
 | x :: l, m => by rw [List.cons_append, sumI, sumI, sumI_app f l m]; omega
theorem sumI_snoc {α : Type} (f : α → Int) (l : List α) (x : α) : sumI f (l ++ [x]) = sumI f l + f x := by rw [sumI_app]; simp [sumI]
abbrev Fl := Int × Int × Int
def segFl (s : Seg) (r : Int) : Fl := (s.fr, s.to, r)
def portFl (x : Port) (r : Int) : Fl := (-1, x.node, r)
def flowsOf (n : Net) (p : Pln) : List Fl := List.zipWith segFl n.segs p.rates ++ List.zipWith portFl n.ports p.ports
def netOf (v : Int) (t : Fl) : Int := (if t.2.1 = v then t.2.2 else 0) - (if t.1 = v then t.2.2 else 0)
def blk (th : List Bool) (k : Nat) (x : Seg × Int) : Bool := if (x.2 == 0) = true then false else if ((if x.2 < 0 then x.1.fr else x.1.to) == (k : Int)) = true then !(th.getD (if x.2 < 0 then x.1.to else x.1.fr).toNat false) else false
def pickB (E : List (Seg × Int)) (th : List Bool) (k : Nat) : Bool := if th.getD k true = true then false else !(E.any (blk th k))
def cntF (th : List Bool) : Nat := th.count false
def ordL (E : List (Seg × Int)) : Nat → List Bool → List Nat → List Nat
 | 0, _, out => out
 | m + 1, th, out => match (List.range th.length).find? (pickB E th) with
  | some k => ordL E m (th.set k true) (out ++ [k])
  | none => out
def ordB (n : Net) (p : Pln) : List Nat := ordL (n.segs.zip p.rates) n.nodes.length (List.replicate n.nodes.length false) []
theorem cntF_set : ∀ (th : List Bool) (k : Nat), th[k]? = some false → cntF (th.set k true) + 1 = cntF th
 | b :: th, 0, h => by simp at h; subst h; simp [cntF]
 | b :: th, k + 1, h => by
  have := cntF_set th k (by simpa using h)
  cases b <;> simp [cntF] at this ⊢ <;> omega
theorem getD_none {th : List Bool} {k : Nat} (h : th.getD k true = false) : th[k]? = some false := by
 rw [List.getD_eq_getElem?_getD] at h
 cases e : th[k]? with
 | none => rw [e] at h; cases h
 | some b => rw [e] at h; exact congrArg some h
theorem ord_pick {E : List (Seg × Int)} {th : List Bool} {out : List Nat} {k : Nat} (h0 : ∀ j, j < k → pickB E th j = false) (hk : pickB E th k = true) : ordL E (cntF th) th out = ordL E (cntF (th.set k true)) (th.set k true) (out ++ [k]) := by
 have hg : th.getD k true = false := by
  unfold pickB at hk
  split at hk
  ·cases hk
  ·rename_i h; simpa using h
 have hs := getD_none hg
 have hc := cntF_set th k hs
 have hkl : k < th.length := by
  rcases Nat.lt_or_ge k th.length with h | h
  ·exact h
  ·rw [List.getElem?_eq_none h] at hs; cases hs
 have hf : (List.range th.length).find? (pickB E th) = some k := by
  rw [List.find?_range_eq_some]
  exact ⟨hk, by simpa using hkl, fun j hj => by rw [h0 j hj]; rfl⟩
 rw [← hc, ordL, hf]
end Go.Proofs.Ytadjhfjiimgddaa
