
/- Networks: known indices; segments in their ranges. -/
import Derived.Test.YtkjibmfggeibjaaNk4
namespace Go.Proofs.Ytkjibmfggeibjaa
open Go
set_option linter.unusedVariables false
set_option linter.unusedSimpArgs false
set_option maxRecDepth 100000

def iRow (k : Int) : List D := [di k]
def unk (n : Net) (k : Int) : Bool := if decide (k < 0) = true then true else decide ((n.nodes.length : Int) ≤ k)
def endsOf (s : Seg) : List Int := [s.fr, s.to]
def allIx (n : Net) : List Int := (n.segs.flatMap endsOf ++ n.ports.map (·.node)) ++ n.sts.map (·.node)
def knB (n : Net) : Bool := !((allIx n).any (unk n))
set_option maxHeartbeats 4000000 in
theorem kn1_c (n : Net) (k : Int) (nn : Nm) : CallsA Try.prog 185 [di k, .ip (netD n)] Hp.none nn (Pu (db (unk n k)) Hp.none) := by
  obtain ⟨code, h1, h2⟩ := c185_ok
  refine callsA_of (T0_ok _) mixed (N := fun t => (0, t)) Try.func185 h1 h2 r185_ok [] false js_nil js_nil' (by simp [Try.f185]) ?_
  cases a1 : decide (k < 0) <;> simp (config := { maxSteps := 500000 }) only [↓vp, vv, implies_true, forall_const, undef, InI, ↓reduceIte, simprocAttr, c185, r185, netD, a1, unk, Pu]
def intOf1 : List D → Option Int
  | [.v (.int .i64 k)] => some k
  | _ => Option.none
theorem qRow_v {α : Type} {f : List D → Option α} {q : α → Bool} {d : Value} {x : α} (h : f [.v d] = some x) : qRow f q (.v d) = q x := by unfold qRow; simp only [h]
def TK (P : Program) (n : Net) : Tbl := tc 121 (rowPu (selQ P false 1 (fun g l => qRow intOf1 (unk n)) outC)) T0
theorem TK_ok (n : Net) : TblOk Try.prog (TK Try.prog n) := by
  refine tc_pu f121_ok (fun args pre d h hp nn => ?_) (T0_ok _)
  unfold selQ at h
  split at h
  · split at h
    · rename_i hi
      cases h
      rw [ipsOf_eq hi]
      exact hasF_I _ _ _ _ hp nn
    · cases h
  · cases h
def KnHp (n : Net) (g : Nat) (l : List Int) : Hp := (Hp.none.put (0, 1000) ⟨g, 1, l.map iRow⟩).put (0, 1) ⟨0, 6, [netD n]⟩
theorem take_fm {α β : Type} (f : α → List β) {l : List α} {j : Nat} (h : j < l.length) : (l.take (j + 1)).flatMap f = (l.take j).flatMap f ++ f l[j] := by
  rw [← List.take_append_getElem h, List.flatMap_append]; simp
theorem take_mp {α β : Type} (f : α → β) {l : List α} {j : Nat} (h : j < l.length) : (l.take (j + 1)).map f = (l.take j).map f ++ [f l[j]] := by
  rw [← List.take_append_getElem h, List.map_append]; rfl
set_option maxHeartbeats 8000000 in
theorem known_c (n : Net) (hz : NetSz n) (nn : Nm) : CallsA Try.prog 147 [n.enc] Hp.none nn (Pu (db (knB n)) Hp.none) := by
  obtain ⟨code, h1, h2⟩ := c147_ok
  refine callsA_of (TK_ok n) mixed (N := fun t => (0, t)) Try.func147 h1 h2 r147_ok [] false js_nil js_nil' (by simp [Try.f147]) ?_
  obtain ⟨hz0, hz1, hz2, hz3, _⟩ := hz
  simp (config := { maxSteps := 500000 }) only [↓vp, vv, implies_true, forall_const, undef, InI, ↓reduceIte, simprocAttr, c147, Net.enc]
  rw [vc_loop]
  refine ⟨fun m s => ∃ (j g : Nat), j + m = n.segs.length ∧ s = ⟨fr [(1, .ptr (0, 1) 0 0 0), (3, .own (0, 1000) g 0 ((n.segs.take j).flatMap endsOf).length), (11, .sl (n.segs.map Seg.row)), (12, di n.segs.length), (13, di j)], KnHp n g ((n.segs.take j).flatMap endsOf)⟩, ⟨n.segs.length, _, (weak_own 3 (0, 1000) 1 (by simp (config := { maxSteps := 500000 }) only [↓vp, vv, implies_true, forall_const, undef, InI, ↓reduceIte, simprocAttr, ]) (by simp (config := { maxSteps := 500000 }) only [↓vp, vv, implies_true, forall_const, undef, InI, ↓reduceIte, simprocAttr, ])).trans (weak_eq [] [(0, 1), (0, 1000)] [(1, .ptr (0, 1) 0 0 0), (3, .own (0, 1000) 0 0 (([] : List Int)).length), (11, .sl (n.segs.map Seg.row)), (12, di n.segs.length), (13, di 0)] (by simp (config := { maxSteps := 500000 }) only [↓vp, vv, implies_true, forall_const, undef, InI, ↓reduceIte, simprocAttr, coverS]) (by simp (config := { maxSteps := 500000 }) only [↓vp, vv, implies_true, forall_const, undef, InI, ↓reduceIte, simprocAttr, refsF]) (by simp (config := { maxSteps := 500000 }) only [↓vp, vv, implies_true, forall_const, undef, InI, ↓reduceIte, simprocAttr, netD, iRow, KnHp]) (by simp) (by simp (config := { maxSteps := 500000 }) only [↓vp, vv, implies_true, forall_const, undef, InI, ↓reduceIte, simprocAttr, netD, iRow, KnHp]; try rfl)), 0, 0, by omega, by simp [KnHp, netD]⟩, ?_⟩
  rintro m s ⟨j, g1, hj, rfl⟩
  by_cases hlt : j < n.segs.length
  · have hlt' : (j : Int) < n.segs.length := by omega
    have hn := idx_nn j
    have hg := getD_map Seg.row n.segs j hlt
    have w1 := idx_next (j := j) (by omega)
    have htk := take_fm endsOf hlt
    generalize n.segs[j] = x at hg htk
    have hlen : ((n.segs.take j).flatMap endsOf).length ≤ 10000000 := by
      simp only [List.length_append, List.length_map, List.length_flatMap, endsOf, List.length_cons, List.length_nil, List.map_const', List.sum_replicate_nat, List.length_take]
      omega
    have hnew : (n.segs.take (j + 1)).flatMap endsOf = (n.segs.take j).flatMap endsOf ++ endsOf x := by rw [htk]
    generalize (n.segs.take j).flatMap endsOf = K at hlen hnew
    simp (config := { maxSteps := 500000 }) only [↓vp, vv, implies_true, forall_const, undef, InI, ↓reduceIte, simprocAttr, c147_2, c147_1, KnHp, netD, iRow, hlt', hn, Int.toNat_natCast, hg, Seg.row, w1]
    refine ⟨⟨by omega, by omega⟩, m - 1, _, by omega, weak_eq [] [(0, 1), (0, 1000)] [(1, .ptr (0, 1) 0 0 0), (3, .own (0, 1000) (g1 + 1) 0 (K.length + 2)), (11, .sl (n.segs.map Seg.row)), (12, di n.segs.length), (13, di (j + 1 : Nat))] (by simp (config := { maxSteps := 500000 }) only [↓vp, vv, implies_true, forall_const, undef, InI, ↓reduceIte, simprocAttr, coverS, Seg.row, w1]) (by simp (config := { maxSteps := 500000 }) only [↓vp, vv, implies_true, forall_const, undef, InI, ↓reduceIte, simprocAttr, refsF]) (by simp (config := { maxSteps := 500000 }) only [↓vp, vv, implies_true, forall_const, undef, InI, ↓reduceIte, simprocAttr, netD, iRow]) (by simp) (by simp (config := { maxSteps := 500000 }) only [↓vp, vv, implies_true, forall_const, undef, InI, ↓reduceIte, simprocAttr, netD, iRow]; try rfl), j + 1, g1 + 1, by omega, ?_⟩
    have hnl := congrArg List.length hnew
    simp [endsOf] at hnl
    simp only [hnew]
    simp [KnHp, netD, iRow, endsOf, hnl]
  · have hlt' : ¬ (j : Int) < n.segs.length := by omega
    obtain rfl : j = n.segs.length := by omega
    simp only [List.take_length]
    simp (config := { maxSteps := 500000 }) only [↓vp, vv, implies_true, forall_const, undef, InI, ↓reduceIte, simprocAttr, c147_2, c147_9, KnHp, netD, hlt', Int.lt_irrefl]
    rw [vc_loop]
    refine ⟨fun m s => ∃ (j g : Nat), j + m = n.ports.length ∧ s = ⟨fr [(1, .ptr (0, 1) 0 0 0), (3, .own (0, 1000) g 0 (n.segs.flatMap endsOf ++ (n.ports.take j).map (·.node)).length), (26, .sl (n.ports.map Port.row)), (27, di n.ports.length), (28, di j)], KnHp n g (n.segs.flatMap endsOf ++ (n.ports.take j).map (·.node))⟩, ⟨n.ports.length, _, (weak_eq [] [(0, 1), (0, 1000)] [(1, .ptr (0, 1) 0 0 0), (3, .own (0, 1000) g1 0 (n.segs.flatMap endsOf).length), (26, .sl (n.ports.map Port.row)), (27, di n.ports.length), (28, di 0)] (by simp (config := { maxSteps := 500000 }) only [↓vp, vv, implies_true, forall_const, undef, InI, ↓reduceIte, simprocAttr, coverS]) (by simp (config := { maxSteps := 500000 }) only [↓vp, vv, implies_true, forall_const, undef, InI, ↓reduceIte, simprocAttr, refsF]) (by simp (config := { maxSteps := 500000 }) only [↓vp, vv, implies_true, forall_const, undef, InI, ↓reduceIte, simprocAttr, netD, iRow, KnHp]) (by simp) (by simp (config := { maxSteps := 500000 }) only [↓vp, vv, implies_true, forall_const, undef, InI, ↓reduceIte, simprocAttr, netD, iRow, KnHp]; try rfl)), 0, g1, by omega, by simp [KnHp, netD, iRow]⟩, ?_⟩
    rintro m s ⟨j, g2, hj, rfl⟩
    by_cases hlt : j < n.ports.length
    · have hlt' : (j : Int) < n.ports.length := by omega
      have hn := idx_nn j
      have hg := getD_map Port.row n.ports j hlt
      have w1 := idx_next (j := j) (by omega)
      have htk := take_mp (fun p : Port => p.node) hlt
      generalize n.ports[j] = x at hg htk
      have hlen : (n.segs.flatMap endsOf ++ (n.ports.take j).map (·.node)).length ≤ 10000000 := by
        simp only [List.length_append, List.length_map, List.length_flatMap, endsOf, List.length_cons, List.length_nil, List.map_const', List.sum_replicate_nat, List.length_take]
        omega
      have hnew : n.segs.flatMap endsOf ++ (n.ports.take (j + 1)).map (·.node) = n.segs.flatMap endsOf ++ (n.ports.take j).map (·.node) ++ [x.node] := by rw [htk]; simp
      generalize n.segs.flatMap endsOf ++ (n.ports.take j).map (·.node) = K at hlen hnew
      simp (config := { maxSteps := 500000 }) only [↓vp, vv, implies_true, forall_const, undef, InI, ↓reduceIte, simprocAttr, c147_4, c147_3, KnHp, netD, iRow, hlt', hn, Int.toNat_natCast, hg, Port.row, w1]
      refine ⟨⟨by omega, by omega⟩, m - 1, _, by omega, weak_eq [] [(0, 1), (0, 1000)] [(1, .ptr (0, 1) 0 0 0), (3, .own (0, 1000) (g2 + 1) 0 (K.length + 1)), (26, .sl (n.ports.map Port.row)), (27, di n.ports.length), (28, di (j + 1 : Nat))] (by simp (config := { maxSteps := 500000 }) only [↓vp, vv, implies_true, forall_const, undef, InI, ↓reduceIte, simprocAttr, coverS, Port.row, w1]) (by simp (config := { maxSteps := 500000 }) only [↓vp, vv, implies_true, forall_const, undef, InI, ↓reduceIte, simprocAttr, refsF]) (by simp (config := { maxSteps := 500000 }) only [↓vp, vv, implies_true, forall_const, undef, InI, ↓reduceIte, simprocAttr, netD, iRow]) (by simp) (by simp (config := { maxSteps := 500000 }) only [↓vp, vv, implies_true, forall_const, undef, InI, ↓reduceIte, simprocAttr, netD, iRow]; try rfl), j + 1, g2 + 1, by omega, ?_⟩
      have hnl := congrArg List.length hnew
      simp [endsOf] at hnl
      simp only [hnew]
      simp [KnHp, netD, iRow, endsOf, hnl]
    · have hlt' : ¬ (j : Int) < n.ports.length := by omega
      obtain rfl : j = n.ports.length := by omega
      simp only [List.take_length]
      simp (config := { maxSteps := 500000 }) only [↓vp, vv, implies_true, forall_const, undef, InI, ↓reduceIte, simprocAttr, c147_4, c147_8, KnHp, netD, hlt', Int.lt_irrefl]
      rw [vc_loop]
      refine ⟨fun m s => ∃ (j g : Nat), j + m = n.sts.length ∧ s = ⟨fr [(1, .ptr (0, 1) 0 0 0), (3, .own (0, 1000) g 0 ((n.segs.flatMap endsOf ++ n.ports.map (·.node)) ++ (n.sts.take j).map (·.node)).length), (39, .sl (n.sts.map Stn.row)), (40, di n.sts.length), (41, di j)], KnHp n g ((n.segs.flatMap endsOf ++ n.ports.map (·.node)) ++ (n.sts.take j).map (·.node))⟩, ⟨n.sts.length, _, (weak_eq [] [(0, 1), (0, 1000)] [(1, .ptr (0, 1) 0 0 0), (3, .own (0, 1000) g2 0 (n.segs.flatMap endsOf ++ n.ports.map (·.node)).length), (39, .sl (n.sts.map Stn.row)), (40, di n.sts.length), (41, di 0)] (by simp (config := { maxSteps := 500000 }) only [↓vp, vv, implies_true, forall_const, undef, InI, ↓reduceIte, simprocAttr, coverS]) (by simp (config := { maxSteps := 500000 }) only [↓vp, vv, implies_true, forall_const, undef, InI, ↓reduceIte, simprocAttr, refsF]) (by simp (config := { maxSteps := 500000 }) only [↓vp, vv, implies_true, forall_const, undef, InI, ↓reduceIte, simprocAttr, netD, iRow, KnHp]) (by simp) (by simp (config := { maxSteps := 500000 }) only [↓vp, vv, implies_true, forall_const, undef, InI, ↓reduceIte, simprocAttr, netD, iRow, KnHp]; try rfl)), 0, g2, by omega, by simp [KnHp, netD, iRow]⟩, ?_⟩
      rintro m s ⟨j, g3, hj, rfl⟩
      by_cases hlt : j < n.sts.length
      · have hlt' : (j : Int) < n.sts.length := by omega
        have hn := idx_nn j
        have hg := getD_map Stn.row n.sts j hlt
        have w1 := idx_next (j := j) (by omega)
        have htk := take_mp (fun p : Stn => p.node) hlt
        generalize n.sts[j] = x at hg htk
        have hlen : ((n.segs.flatMap endsOf ++ n.ports.map (·.node)) ++ (n.sts.take j).map (·.node)).length ≤ 10000000 := by
          simp only [List.length_append, List.length_map, List.length_flatMap, endsOf, List.length_cons, List.length_nil, List.map_const', List.sum_replicate_nat, List.length_take]
          omega
        have hnew : (n.segs.flatMap endsOf ++ n.ports.map (·.node)) ++ (n.sts.take (j + 1)).map (·.node) = (n.segs.flatMap endsOf ++ n.ports.map (·.node)) ++ (n.sts.take j).map (·.node) ++ [x.node] := by rw [htk]; simp
        generalize (n.segs.flatMap endsOf ++ n.ports.map (·.node)) ++ (n.sts.take j).map (·.node) = K at hlen hnew
        simp (config := { maxSteps := 500000 }) only [↓vp, vv, implies_true, forall_const, undef, InI, ↓reduceIte, simprocAttr, c147_6, c147_5, KnHp, netD, iRow, hlt', hn, Int.toNat_natCast, hg, Stn.row, w1]
        refine ⟨⟨by omega, by omega⟩, m - 1, _, by omega, weak_eq [] [(0, 1), (0, 1000)] [(1, .ptr (0, 1) 0 0 0), (3, .own (0, 1000) (g3 + 1) 0 (K.length + 1)), (39, .sl (n.sts.map Stn.row)), (40, di n.sts.length), (41, di (j + 1 : Nat))] (by simp (config := { maxSteps := 500000 }) only [↓vp, vv, implies_true, forall_const, undef, InI, ↓reduceIte, simprocAttr, coverS, Stn.row, w1]) (by simp (config := { maxSteps := 500000 }) only [↓vp, vv, implies_true, forall_const, undef, InI, ↓reduceIte, simprocAttr, refsF]) (by simp (config := { maxSteps := 500000 }) only [↓vp, vv, implies_true, forall_const, undef, InI, ↓reduceIte, simprocAttr, netD, iRow]) (by simp) (by simp (config := { maxSteps := 500000 }) only [↓vp, vv, implies_true, forall_const, undef, InI, ↓reduceIte, simprocAttr, netD, iRow]; try rfl), j + 1, g3 + 1, by omega, ?_⟩
        have hnl := congrArg List.length hnew
        simp [endsOf] at hnl
        simp only [hnew]
        simp [KnHp, netD, iRow, endsOf, Nat.add_assoc, hnl]
      · have hlt' : ¬ (j : Int) < n.sts.length := by omega
        obtain rfl : j = n.sts.length := by omega
        simp only [List.take_length]
        have hq : QOk Try.prog false 1 (qRow intOf1 (unk n)) 185 [netD n] ((allIx n).map iRow) := by
          refine ⟨f185_ok, ?_, fun r hr => ?_⟩
          · simp only [allIx, List.length_append, List.length_map, List.length_flatMap, endsOf, List.length_cons, List.length_nil, List.map_const', List.sum_replicate_nat]
            omega
          · obtain ⟨x, _, rfl⟩ := List.mem_map.1 hr
            exact ⟨rfl, rfl, fun _ => ⟨_, rfl⟩, fun nn => kn1_c n x nn⟩
        have ho : outC (fun r => qRow intOf1 (unk n) (elV false r)) ((allIx n).map iRow) = db ((allIx n).any (unk n)) := by
          unfold outC
          rw [List.any_map]
          rfl
        change vc _ _ _ _ _ ⟨fr [(1, .ptr (0, 1) 0 0 0), (3, .own (0, 1000) g3 0 (allIx n).length), (39, .sl (n.sts.map Stn.row)), (40, di n.sts.length), (41, di n.sts.length)], KnHp n g3 (allIx n)⟩
        simp (config := { maxSteps := 500000 }) only [↓vp, vv, implies_true, forall_const, undef, InI, ↓reduceIte, simprocAttr, c147_6, KnHp, netD, hlt', Int.lt_irrefl]
        refine vc_wk ((weak_ip 1 (0, 1) 0 6 (netD n) (by simp (config := { maxSteps := 500000 }) only [↓vp, vv, implies_true, forall_const, undef, InI, ↓reduceIte, simprocAttr, ]) (by simp (config := { maxSteps := 500000 }) only [↓vp, vv, implies_true, forall_const, undef, InI, ↓reduceIte, simprocAttr, netD]) (by simp (config := { maxSteps := 500000 }) only [↓vp, vv, implies_true, forall_const, undef, InI, ↓reduceIte, simprocAttr, netD]) (by simp)).trans (weak_eq [(0, 1000)] [] [(1, .ip (netD n)), (3, .sl ((allIx n).map iRow))] (by simp (config := { maxSteps := 500000 }) only [↓vp, vv, implies_true, forall_const, undef, InI, ↓reduceIte, simprocAttr, coverS, iRow]) (by simp (config := { maxSteps := 500000 }) only [↓vp, vv, implies_true, forall_const, undef, InI, ↓reduceIte, simprocAttr, refsF]) (by simp (config := { maxSteps := 500000 }) only [↓vp, vv, implies_true, forall_const, undef, InI, ↓reduceIte, simprocAttr, ]) (by simp) (by simp (config := { maxSteps := 500000 }) only [↓vp, vv, implies_true, forall_const, undef, InI, ↓reduceIte, simprocAttr, ]; try rfl))) ?_
        simp (config := { maxSteps := 500000 }) only [↓vp, vv, implies_true, forall_const, undef, InI, ↓reduceIte, simprocAttr, c147_7, r147, TK, selQ, ipsOf, hq, ho, knB, Pu]
end Go.Proofs.Ytkjibmfggeibjaa
