/- FlowAnswers: Pl2 CodeFO FlE CodeRF. -/
import Derived.Test.YtkjibmfggeibjaaFaG12
import Derived.Test.YtkjibmfggeibjaaFaG7
import Derived.Test.YtkjibmfggeibjaaFaG3
import Derived.Test.YtkjibmfggeibjaaProg
import Derived.Test.YtkjibmfggeibjaaFaG11

/- Plans out of a source: Negated, abs; what the loops keep. -/
/- Plans out of a source: Negated, abs; what the loops keep. -/
namespace Go.Proofs.Ytkjibmfggeibjaa
open Go
set_option linter.unusedVariables false
set_option linter.unusedSimpArgs false
set_option maxRecDepth 100000

set_option maxHeartbeats 1000000 in
theorem kabs_c (x : Int) (h : -1000000 ≤ x ∧ x ≤ 1000000) (nn : Nm) : CallsA Try.prog 82 [di x] Hp.none nn (Pu (di (absI x)) Hp.none) := by
  obtain ⟨code, h1, h2⟩ := c82_ok
  refine callsA_of (T0_ok _) mixed (N := fun t => (0, t)) Try.func82 h1 h2 r82_ok [] false js_nil js_nil' (by simp [Try.f82]) ?_
  have w1 : IntKind.i64.wrap (0 - x) = -x := by rw [wrap_i (by omega)]; omega
  have e : (if x < -x then -x else x) = absI x := rfl
  simp (config := { maxSteps := 500000 }) only [↓vp, vv, implies_true, forall_const, undef, InI, ↓reduceIte, simprocAttr, c82, r82, w1, e, Pu]
def NegS (p : Pln) (r q : List Int) (g : Nat) : Hp := (((((Hp.none.put (0, 1002) ⟨q.length, 1, q.map iRow⟩).put (0, 1001) ⟨r.length, 1, r.map iRow⟩).put (0, 6) ⟨1, 1, p.pumps.map bRow⟩).put (0, 3) ⟨0, 3, [[.own (0, 1001) r.length 0 r.length, .own (0, 1002) q.length 0 q.length, .own (0, 6) 1 0 p.pumps.length]]⟩).put (0, 2) ⟨0, 3, [[.mt, .mt, .mt]]⟩).put (0, 1) ⟨0, 3, [plnD p]⟩
def SmI (R : List Int) : Prop := R.length ≤ 1000000 ∧ ∀ r ∈ R, -1000000000 ≤ r ∧ r ≤ 1000000000
theorem neg_take (R : List Int) (j : Nat) (h : j < R.length) : (R.take (j + 1)).map (- ·) = (R.take j).map (- ·) ++ [-R[j]] := by
  rw [← List.take_append_getElem h, List.map_append]; rfl
set_option maxHeartbeats 8000000 in
theorem negated_c (p : Pln) (h1 : SmI p.rates) (h2 : SmI p.ports) (h3 : p.pumps.length ≤ 1000000) (nn : Nm) : CallsA Try.prog 49 [p.enc] Hp.none nn (Pu (negP p).enc Hp.none) := by
  obtain ⟨code, k1, k2⟩ := c49_ok
  refine callsA_of (T0_ok _) mixed (N := fun t => (0, t)) Try.func49 k1 k2 r49_ok [] false js_nil js_nil' (by simp [Try.f49]) ?_
  obtain ⟨l1, b1⟩ := h1
  obtain ⟨l2, b2⟩ := h2
  have z1 : p.pumps.length * 1 ≤ 140737488355328 := by omega
  have z2 : p.pumps.length ≤ 4611686018427387904 := by omega
  have hb : ∀ b ∈ p.pumps, (bRow b).length = 1 := fun _ _ => rfl
  simp (config := { maxSteps := 500000 }) only [↓vp, vv, implies_true, forall_const, undef, InI, ↓reduceIte, simprocAttr, c49, Pln.enc, plnD, z1, z2, hb]
  refine ⟨hb, rng_loop p.rates.length (fun j => ⟨fr [(1, .ptr (0, 1) 0 0 0), (2, .ptr (0, 2) 0 0 0), (3, .ptr (0, 3) 0 0 0), (13, di p.rates.length), (14, di j)], NegS p ((p.rates.take j).map (- ·)) [] 0⟩) (fun _ => True) ((weak_ownC (0, 3) 0 3 [] [.mt, .own (0, 6) 1 0 p.pumps.length] (0, 1001) 1 (by simp (config := { maxSteps := 500000 }) only [↓vp, vv, implies_true, forall_const, undef, InI, ↓reduceIte, simprocAttr, ]) (by simp (config := { maxSteps := 500000 }) only [↓vp, vv, implies_true, forall_const, undef, InI, ↓reduceIte, simprocAttr, ])).trans ((weak_ownC (0, 3) 0 3 [.own (0, 1001) 0 0 0] [.own (0, 6) 1 0 p.pumps.length] (0, 1002) 1 (by simp (config := { maxSteps := 500000 }) only [↓vp, vv, implies_true, forall_const, undef, InI, ↓reduceIte, simprocAttr, ]) (by simp (config := { maxSteps := 500000 }) only [↓vp, vv, implies_true, forall_const, undef, InI, ↓reduceIte, simprocAttr, ])).trans (weak_eq [] [(0, 1), (0, 2), (0, 3), (0, 6), (0, 1001), (0, 1002)] [(1, .ptr (0, 1) 0 0 0), (2, .ptr (0, 2) 0 0 0), (3, .ptr (0, 3) 0 0 0), (13, di p.rates.length), (14, di 0)] (by simp (config := { maxSteps := 500000 }) only [↓vp, vv, implies_true, forall_const, undef, InI, ↓reduceIte, simprocAttr, coverS, NegS, plnD, bRow]) (by simp (config := { maxSteps := 500000 }) only [↓vp, vv, implies_true, forall_const, undef, InI, ↓reduceIte, simprocAttr, refsF, NegS, plnD, bRow]) (by simp (config := { maxSteps := 500000 }) only [↓vp, vv, implies_true, forall_const, undef, InI, ↓reduceIte, simprocAttr, NegS, plnD, bRow]) (by simp) (by simp (config := { maxSteps := 500000 }) only [↓vp, vv, implies_true, forall_const, undef, InI, ↓reduceIte, simprocAttr, NegS, plnD, bRow]; try rfl)))) trivial (fun j hj _ => ?_) (fun _ => ?_)⟩
  · have hj' : (j : Int) < p.rates.length := by omega
    have hn := idx_nn j
    have w1 := idx_next (j := j) (by omega)
    have hg := iRow_at p.rates j hj
    have ht := neg_take p.rates j hj
    have hr := b1 _ (List.getElem_mem hj)
    generalize p.rates[j] = r at hg ht hr
    have w2 : IntKind.i64.wrap (0 - r) = -r := by rw [wrap_i (by omega)]; omega
    have hl : (p.rates.take j).length = j := by rw [List.length_take]; omega
    have hl3 : (p.rates.take (j + 1)).length = j + 1 := by rw [List.length_take]; omega
    have y1 : (j + 1) * 8 ≤ 140737488355328 := by omega
    have y2 : j + 1 ≤ 4611686018427387904 := by omega
    simp (config := { maxSteps := 500000 }) only [↓vp, vv, implies_true, forall_const, undef, InI, ↓reduceIte, simprocAttr, c49, r49, c49_1, c49_2, c49_3, c49_4, c49_5, c49_6, NegS, plnD, hj', hn, Int.toNat_natCast, hg, w1, w2, hl, y1, y2]
    exact rng_next hj (weak_eq [] [(0, 1), (0, 2), (0, 3), (0, 6), (0, 1001), (0, 1002)] [(1, .ptr (0, 1) 0 0 0), (2, .ptr (0, 2) 0 0 0), (3, .ptr (0, 3) 0 0 0), (13, di p.rates.length), (14, di (j + 1 : Nat))] (by simp (config := { maxSteps := 500000 }) only [↓vp, vv, implies_true, forall_const, undef, InI, ↓reduceIte, simprocAttr, coverS, NegS, plnD, iRow, bRow, w1, ht, hl, hl3, List.map_append]) (by simp (config := { maxSteps := 500000 }) only [↓vp, vv, implies_true, forall_const, undef, InI, ↓reduceIte, simprocAttr, refsF, NegS, plnD, iRow, bRow, w1, ht, hl, hl3, List.map_append]) (by simp (config := { maxSteps := 500000 }) only [↓vp, vv, implies_true, forall_const, undef, InI, ↓reduceIte, simprocAttr, NegS, plnD, iRow, bRow, w1, ht, hl, hl3, List.map_append]) (by simp) (by simp (config := { maxSteps := 500000 }) only [↓vp, vv, implies_true, forall_const, undef, InI, ↓reduceIte, simprocAttr, NegS, plnD, iRow, bRow, w1, ht, hl, hl3, List.map_append]; try rfl)) trivial
  · simp only [List.take_length]
    have hl1 : (p.rates.map (- ·)).length = p.rates.length := List.length_map _
    generalize hR : p.rates.map (- ·) = R at hl1
    simp (config := { maxSteps := 500000 }) only [↓vp, vv, implies_true, forall_const, undef, InI, ↓reduceIte, simprocAttr, c49, r49, c49_1, c49_2, c49_3, c49_4, c49_5, c49_6, NegS, plnD, Int.lt_irrefl]
    refine rng_loop p.ports.length (fun j => ⟨fr [(1, .ptr (0, 1) 0 0 0), (2, .ptr (0, 2) 0 0 0), (3, .ptr (0, 3) 0 0 0), (31, di p.ports.length), (32, di j)], NegS p R ((p.ports.take j).map (- ·)) 0⟩) (fun _ => True) (weak_eq [] [(0, 1), (0, 2), (0, 3), (0, 6), (0, 1001), (0, 1002)] [(1, .ptr (0, 1) 0 0 0), (2, .ptr (0, 2) 0 0 0), (3, .ptr (0, 3) 0 0 0), (31, di p.ports.length), (32, di 0)] (by simp (config := { maxSteps := 500000 }) only [↓vp, vv, implies_true, forall_const, undef, InI, ↓reduceIte, simprocAttr, coverS, NegS, plnD, iRow, bRow]) (by simp (config := { maxSteps := 500000 }) only [↓vp, vv, implies_true, forall_const, undef, InI, ↓reduceIte, simprocAttr, refsF, NegS, plnD, iRow, bRow]) (by simp (config := { maxSteps := 500000 }) only [↓vp, vv, implies_true, forall_const, undef, InI, ↓reduceIte, simprocAttr, NegS, plnD, iRow, bRow]) (by simp) (by simp (config := { maxSteps := 500000 }) only [↓vp, vv, implies_true, forall_const, undef, InI, ↓reduceIte, simprocAttr, NegS, plnD, iRow, bRow]; try rfl)) trivial (fun j hj _ => ?_) (fun _ => ?_)
    · have hj' : (j : Int) < p.ports.length := by omega
      have hn := idx_nn j
      have w1 := idx_next (j := j) (by omega)
      have hg := iRow_at p.ports j hj
      have ht := neg_take p.ports j hj
      have hr := b2 _ (List.getElem_mem hj)
      generalize p.ports[j] = r at hg ht hr
      have w2 : IntKind.i64.wrap (0 - r) = -r := by rw [wrap_i (by omega)]; omega
      have hl : (p.ports.take j).length = j := by rw [List.length_take]; omega
      have hl3 : (p.ports.take (j + 1)).length = j + 1 := by rw [List.length_take]; omega
      have y1 : (j + 1) * 8 ≤ 140737488355328 := by omega
      have y2 : j + 1 ≤ 4611686018427387904 := by omega
      simp (config := { maxSteps := 500000 }) only [↓vp, vv, implies_true, forall_const, undef, InI, ↓reduceIte, simprocAttr, c49, r49, c49_1, c49_2, c49_3, c49_4, c49_5, c49_6, NegS, plnD, hj', hn, Int.toNat_natCast, hg, w1, w2, hl, y1, y2]
      exact rng_next hj (weak_eq [] [(0, 1), (0, 2), (0, 3), (0, 6), (0, 1001), (0, 1002)] [(1, .ptr (0, 1) 0 0 0), (2, .ptr (0, 2) 0 0 0), (3, .ptr (0, 3) 0 0 0), (31, di p.ports.length), (32, di (j + 1 : Nat))] (by simp (config := { maxSteps := 500000 }) only [↓vp, vv, implies_true, forall_const, undef, InI, ↓reduceIte, simprocAttr, coverS, NegS, plnD, iRow, bRow, w1, ht, hl, hl3, List.map_append]) (by simp (config := { maxSteps := 500000 }) only [↓vp, vv, implies_true, forall_const, undef, InI, ↓reduceIte, simprocAttr, refsF, NegS, plnD, iRow, bRow, w1, ht, hl, hl3, List.map_append]) (by simp (config := { maxSteps := 500000 }) only [↓vp, vv, implies_true, forall_const, undef, InI, ↓reduceIte, simprocAttr, NegS, plnD, iRow, bRow, w1, ht, hl, hl3, List.map_append]) (by simp) (by simp (config := { maxSteps := 500000 }) only [↓vp, vv, implies_true, forall_const, undef, InI, ↓reduceIte, simprocAttr, NegS, plnD, iRow, bRow, w1, ht, hl, hl3, List.map_append]; try rfl)) trivial
    · simp only [List.take_length]
      have e : negP p = ⟨R, p.ports.map (- ·), p.pumps⟩ := by unfold negP; rw [hR]
      rw [e]
      generalize p.ports.map (- ·) = Q
      simp (config := { maxSteps := 500000 }) only [↓vp, vv, implies_true, forall_const, undef, InI, ↓reduceIte, simprocAttr, c49, r49, c49_1, c49_2, c49_3, c49_4, c49_5, c49_6, NegS, plnD, Int.lt_irrefl, Pu]
      exact ⟨fun _ _ d hd => by rw [List.mem_singleton.1 hd]; rfl, fun _ _ d hd => by rw [List.mem_singleton.1 hd]; rfl, fun _ _ d hd => by rw [List.mem_singleton.1 hd]; rfl⟩
end Go.Proofs.Ytkjibmfggeibjaa
/- Plans out of a source: the inner loops. -/
namespace Go.Proofs.Ytkjibmfggeibjaa
open Go
set_option linter.unusedVariables false
set_option linter.unusedSimpArgs false
set_option maxRecDepth 100000

def selAbs : List D → Option (Prop × D)
  | [.v (.int .i64 x)] => some (-1000000 ≤ x ∧ x ≤ 1000000, di (absI x))
  | _ => Option.none
def selNeg : List D → Option (Prop × D)
  | [.agg r] => match plnOf1 r with
    | some p => some (SmI p.rates ∧ SmI p.ports ∧ p.pumps.length ≤ 1000000, (negP p).enc)
    | Option.none => Option.none
  | _ => Option.none
def TPl : Tbl := tc 82 (rowPu selAbs) (tc 49 (rowPu selNeg) T2)
theorem TPl_ok : TblOk Try.prog TPl := by
  refine tc_pu f82_ok (fun args pre d h hp nn => ?_) (tc_pu f49_ok (fun args pre d h hp nn => ?_) T2_ok)
  · unfold selAbs at h
    split at h <;> cases h
    exact kabs_c _ hp nn
  · unfold selNeg at h
    split at h
    · split at h
      · rename_i e
        cases h
        rw [plnOf1_eq e]
        exact negated_c _ hp.1 hp.2.1 hp.2.2 nn
      · cases h
    · cases h
def PH (i : Nm) (n : Net) (g : Nat) (R Q : List Int) (U : List Bool) (L : List (List D)) (at' : Int) (B : Hp) : Hp :=
  ((((((B.put (i.1 + 1, 1005) ⟨g, 1, U.map bRow⟩).put (i.1 + 1, 29) ⟨0, 1, Q.map iRow⟩).put (i.1 + 1, 25) ⟨0, 1, R.map iRow⟩).put (i.1 + 1, 5) ⟨0, 3, [[.own (i.1 + 1, 25) 0 0 R.length, .own (i.1 + 1, 29) 0 0 Q.length, .own (i.1 + 1, 1005) g 0 U.length]]⟩).put (i.1 + 1, 4) ⟨0, 3, [[.mt, .mt, .mt]]⟩).put (i.1 + 1, 3) ⟨0, 6, [netD n]⟩).put i (sE L at')
def BW (i : Nm) (gw : Nat) (W : List Nat) : Hp := Hp.none.put (i.1 + 1, 1012) ⟨gw, 1, W.map nRow⟩
def BO (i : Nm) (gw : Nat) (W : List Nat) (go : Nat) (O : List Nat) : Hp := (Hp.none.put (i.1 + 1, 1016) ⟨go, 1, O.map nRow⟩).put (i.1 + 1, 1012) ⟨gw, 1, W.map nRow⟩
def PF (i : Nm) (tu : Bool) (c : Int) (l : List (Nat × D)) : List (Nat × D) := (0, .ptr i 0 0 0) :: (3, .ptr (i.1 + 1, 3) 0 0 0) :: (4, .ptr (i.1 + 1, 4) 0 0 0) :: (5, .ptr (i.1 + 1, 5) 0 0 0) :: (7, db tu) :: (8, di c) :: l
structure PFk (i : Nm) (tu : Bool) (c : Int) (F : Fr) : Prop where
  f0 : F 0 = .ptr i 0 0 0
  f3 : F 3 = .ptr (i.1 + 1, 3) 0 0 0
  f4 : F 4 = .ptr (i.1 + 1, 4) 0 0 0
  f5 : F 5 = .ptr (i.1 + 1, 5) 0 0 0
  f7 : F 7 = db tu
  f8 : F 8 = di c
structure PFw (a at0 rate : Int) (i : Nm) (gw : Nat) (W : List Nat) (e : Int) (F : Fr) : Prop where
  f9 : F 9 = di a
  f10 : F 10 = di at0
  f11 : F 11 = di rate
  f12 : F 12 = .own (i.1 + 1, 1012) gw 0 W.length
  f13 : F 13 = di e
/-- A port at which a way may end. -/
def EndOk (n : Net) (Q : List Int) (a rate at' e : Int) : Prop := e ≠ a ∧ ∃ (k : Nat) (y : Port) (q : Int), e = k ∧ n.ports[k]? = some y ∧ Q[k]? = some q ∧ y.node = at' ∧ q ≤ 0 ∧ -1000 ≤ q - rate
set_option maxHeartbeats 16000000 in
theorem pl4 (i : Nm) (L : List (List D)) (n : Net) (g : Nat) (R Q : List Int) (U : List Bool) (tu : Bool) (c a at0 rate : Int) (gw : Nat) (W : List Nat) (hql : n.ports.length ≤ 1000000) (hQl : Q.length = n.ports.length) (hQb : ∀ r ∈ Q, -1000 ≤ r ∧ r ≤ 1000) (hr : 1 ≤ rate ∧ rate ≤ 300)
    (s : St) (Qx : Ex → St → Prop) (at1 : Int) (o1 : SrcOk L at1) (hw : Weak [i] s ⟨fr (PF i tu c [(9, di a), (10, di at0), (11, di rate), (12, .own (i.1 + 1, 1012) gw 0 W.length), (13, di (-1)), (90, .sl (n.ports.map Port.row)), (91, di n.ports.length), (92, di 0)]), PH i n g R Q U L at1 (BW i gw W)⟩)
    (hX : ∀ F at2 e, SrcOk L at2 → (e = -1 ∨ EndOk n Q a rate at0 e) → PFk i tu c F → PFw a at0 rate i gw W e F → Qx (.exit 6) ⟨F, PH i n g R Q U L at2 (BW i gw W)⟩) :
    vc TPl (fun t => (i.1 + 1, t)) [i] (.loop c20_5) Qx s := by
  rw [vc_loop]
  refine ⟨fun m s => ∃ at' e j, j + m = n.ports.length ∧ SrcOk L at' ∧ (e = -1 ∨ EndOk n Q a rate at0 e) ∧ s = ⟨fr (PF i tu c [(9, di a), (10, di at0), (11, di rate), (12, .own (i.1 + 1, 1012) gw 0 W.length), (13, di e), (90, .sl (n.ports.map Port.row)), (91, di n.ports.length), (92, di (j : Nat))]), PH i n g R Q U L at' (BW i gw W)⟩, ⟨n.ports.length, _, hw, at1, -1, 0, by omega, o1, .inl rfl, rfl⟩, ?_⟩
  rintro m s ⟨at2, e, j, hm, o2, he, rfl⟩
  by_cases hj : j < n.ports.length
  · have hj' : (j : Int) < n.ports.length := by omega
    have hjn := idx_nn j
    have w1 := idx_next (j := j) (by omega)
    have hjq : j < Q.length := by omega
    have hjq' : (j : Int) < Q.length := by omega
    have hg := getD_map Port.row n.ports j hj
    have hg2 := iRow_at Q j hjq
    have hx : n.ports[j]? = some n.ports[j] := List.getElem?_eq_getElem hj
    have hy : Q[j]? = some Q[j] := List.getElem?_eq_getElem hjq
    have hb := hQb _ (List.getElem_mem hjq)
    generalize n.ports[j] = x at hg hx
    generalize Q[j] = q at hg2 hy hb
    have w2 : IntKind.i64.wrap (q - rate) = q - rate := wrap_i (by omega)
    have nx : ∀ (at3 e' : Int) (F : Fr) (H : Hp), SrcOk L at3 → (e' = -1 ∨ EndOk n Q a rate at0 e') → PFk i tu c F → PFw a at0 rate i gw W e' F → F 90 = .sl (n.ports.map Port.row) → F 91 = di n.ports.length → F 92 = di (j + 1 : Nat) →
        H i = some (sE L at3) → H (i.1 + 1, 3) = some ⟨0, 6, [netD n]⟩ → H (i.1 + 1, 4) = some ⟨0, 3, [[.mt, .mt, .mt]]⟩ → H (i.1 + 1, 5) = some ⟨0, 3, [[.own (i.1 + 1, 25) 0 0 R.length, .own (i.1 + 1, 29) 0 0 Q.length, .own (i.1 + 1, 1005) g 0 U.length]]⟩ → H (i.1 + 1, 25) = some ⟨0, 1, R.map iRow⟩ → H (i.1 + 1, 29) = some ⟨0, 1, Q.map iRow⟩ → H (i.1 + 1, 1005) = some ⟨g, 1, U.map bRow⟩ → H (i.1 + 1, 1012) = some ⟨gw, 1, W.map nRow⟩ →
        ∃ k' s', k' < m ∧ Weak [i] ⟨F, H⟩ s' ∧ ∃ at' e j, j + k' = n.ports.length ∧ SrcOk L at' ∧ (e = -1 ∨ EndOk n Q a rate at0 e) ∧ s' = ⟨fr (PF i tu c [(9, di a), (10, di at0), (11, di rate), (12, .own (i.1 + 1, 1012) gw 0 W.length), (13, di e), (90, .sl (n.ports.map Port.row)), (91, di n.ports.length), (92, di (j : Nat))]), PH i n g R Q U L at' (BW i gw W)⟩ := by
      rintro at3 e' F H o3 he' ⟨f0, f3, f4, f5, f7, f8⟩ ⟨f9, f10, f11, f12, f13⟩ f90 f91 f92 h0 h3 h4 h5 h25 h29 h105 h112
      exact ⟨m - 1, _, by omega, (weak_eq [] [i, (i.1 + 1, 3), (i.1 + 1, 4), (i.1 + 1, 5), (i.1 + 1, 25), (i.1 + 1, 29), (i.1 + 1, 1005), (i.1 + 1, 1012)] (PF i tu c [(9, di a), (10, di at0), (11, di rate), (12, .own (i.1 + 1, 1012) gw 0 W.length), (13, di e'), (90, .sl (n.ports.map Port.row)), (91, di n.ports.length), (92, di (j + 1 : Nat))]) (by simp (config := { maxSteps := 500000 }) only [↓vp, vv, implies_true, forall_const, undef, InI, ↓reduceIte, simprocAttr, coverS, PF, PH, BW, netD, iRow, bRow, nRow, f0, f3, f4, f5, f7, f8, f9, f10, f11, f12, f13, f90, f91, f92, h0, h3, h4, h5, h25, h29, h105, h112]) (by simp (config := { maxSteps := 500000 }) only [↓vp, vv, implies_true, forall_const, undef, InI, ↓reduceIte, simprocAttr, refsF, PF, PH, BW, netD, iRow, bRow, nRow, f0, f3, f4, f5, f7, f8, f9, f10, f11, f12, f13, f90, f91, f92, h0, h3, h4, h5, h25, h29, h105, h112]) (by simp (config := { maxSteps := 500000 }) only [↓vp, vv, implies_true, forall_const, undef, InI, ↓reduceIte, simprocAttr, PF, PH, BW, netD, iRow, bRow, nRow, f0, f3, f4, f5, f7, f8, f9, f10, f11, f12, f13, f90, f91, f92, h0, h3, h4, h5, h25, h29, h105, h112]) (by simp) (by simp (config := { maxSteps := 500000 }) only [↓vp, vv, implies_true, forall_const, undef, InI, ↓reduceIte, simprocAttr, PF, PH, BW, netD, iRow, bRow, nRow, f0, f3, f4, f5, f7, f8, f9, f10, f11, f12, f13, f90, f91, f92, h0, h3, h4, h5, h25, h29, h105, h112]; try rfl)), at3, e', j + 1, by omega, o3, he', rfl⟩
    cases c1 : (x.node == at0) with
    | false =>
      simp (config := { maxSteps := 500000 }) only [↓vp, vv, implies_true, forall_const, undef, InI, ↓reduceIte, simprocAttr, c20_5, c20_4, c20_3, TPl, T2, T1, selI, PF, PH, BW, netD, hj', hjn, Int.toNat_natCast, hg, Port.row, c1, w1]
      refine nx at2 e _ _ o2 he ⟨?_, ?_, ?_, ?_, ?_, ?_⟩ ⟨?_, ?_, ?_, ?_, ?_⟩ ?_ ?_ ?_ ?_ ?_ ?_ ?_ ?_ ?_ ?_ ?_ <;> simp (config := { maxSteps := 500000 }) only [↓vp, vv, implies_true, forall_const, undef, InI, ↓reduceIte, simprocAttr, netD, w1]
    | true =>
    cases c2 : ((j : Int) != a) with
    | false =>
      simp (config := { maxSteps := 500000 }) only [↓vp, vv, implies_true, forall_const, undef, InI, ↓reduceIte, simprocAttr, c20_5, c20_4, c20_3, TPl, T2, T1, selI, PF, PH, BW, netD, hj', hjn, Int.toNat_natCast, hg, hg2, Port.row, c1, c2, w1]
      refine nx at2 e _ _ o2 he ⟨?_, ?_, ?_, ?_, ?_, ?_⟩ ⟨?_, ?_, ?_, ?_, ?_⟩ ?_ ?_ ?_ ?_ ?_ ?_ ?_ ?_ ?_ ?_ ?_ <;> simp (config := { maxSteps := 500000 }) only [↓vp, vv, implies_true, forall_const, undef, InI, ↓reduceIte, simprocAttr, netD, w1]
    | true =>
    cases c3 : decide (q ≤ 0) with
    | false =>
      simp (config := { maxSteps := 500000 }) only [↓vp, vv, implies_true, forall_const, undef, InI, ↓reduceIte, simprocAttr, c20_5, c20_4, c20_3, TPl, T2, T1, selI, PF, PH, BW, netD, hj', hjn, Int.toNat_natCast, hg, hg2, Port.row, c1, c2, hjq, hjq', c3, w1]
      refine nx at2 e _ _ o2 he ⟨?_, ?_, ?_, ?_, ?_, ?_⟩ ⟨?_, ?_, ?_, ?_, ?_⟩ ?_ ?_ ?_ ?_ ?_ ?_ ?_ ?_ ?_ ?_ ?_ <;> simp (config := { maxSteps := 500000 }) only [↓vp, vv, implies_true, forall_const, undef, InI, ↓reduceIte, simprocAttr, netD, w1]
    | true =>
    cases c4 : decide (-1000 ≤ q - rate) with
    | false =>
      simp (config := { maxSteps := 500000 }) only [↓vp, vv, implies_true, forall_const, undef, InI, ↓reduceIte, simprocAttr, c20_5, c20_4, c20_3, TPl, T2, T1, selI, PF, PH, BW, netD, hj', hjn, Int.toNat_natCast, hg, hg2, Port.row, c1, c2, hjq, hjq', c3, w2, c4, w1]
      refine nx at2 e _ _ o2 he ⟨?_, ?_, ?_, ?_, ?_, ?_⟩ ⟨?_, ?_, ?_, ?_, ?_⟩ ?_ ?_ ?_ ?_ ?_ ?_ ?_ ?_ ?_ ?_ ?_ <;> simp (config := { maxSteps := 500000 }) only [↓vp, vv, implies_true, forall_const, undef, InI, ↓reduceIte, simprocAttr, netD, w1]
    | true =>
    cases c5 : decide ((0 : Int) < W.length) with
    | false =>
      simp (config := { maxSteps := 500000 }) only [↓vp, vv, implies_true, forall_const, undef, InI, ↓reduceIte, simprocAttr, c20_5, c20_4, c20_3, TPl, T2, T1, selI, PF, PH, BW, netD, hj', hjn, Int.toNat_natCast, hg, hg2, Port.row, c1, c2, hjq, hjq', c3, w2, c4, c5, w1]
      refine nx at2 e _ _ o2 he ⟨?_, ?_, ?_, ?_, ?_, ?_⟩ ⟨?_, ?_, ?_, ?_, ?_⟩ ?_ ?_ ?_ ?_ ?_ ?_ ?_ ?_ ?_ ?_ ?_ <;> simp (config := { maxSteps := 500000 }) only [↓vp, vv, implies_true, forall_const, undef, InI, ↓reduceIte, simprocAttr, netD, w1]
    | true =>
      simp (config := { maxSteps := 500000 }) only [↓vp, vv, implies_true, forall_const, undef, InI, ↓reduceIte, simprocAttr, c20_5, c20_4, c20_3, TPl, T2, T1, selI, PF, PH, BW, netD, hj', hjn, Int.toNat_natCast, hg, hg2, Port.row, c1, c2, hjq, hjq', c3, w2, c4, c5, o2, w1]
      rintro ⟨at3, o3⟩ v hv
      have he2 : EndOk n Q a rate at0 (j : Int) := ⟨by simpa using c2, j, x, q, rfl, hx, hy, by simpa using c1, by simpa using c3, by simpa using c4⟩
      cases c6 : (v == (0 : Int)) with
      | false =>
        simp (config := { maxSteps := 500000 }) only [↓vp, vv, implies_true, forall_const, undef, InI, ↓reduceIte, simprocAttr, c6, w1]
        refine nx at3 e _ _ o3 he ⟨?_, ?_, ?_, ?_, ?_, ?_⟩ ⟨?_, ?_, ?_, ?_, ?_⟩ ?_ ?_ ?_ ?_ ?_ ?_ ?_ ?_ ?_ ?_ ?_ <;> simp (config := { maxSteps := 500000 }) only [↓vp, vv, implies_true, forall_const, undef, InI, ↓reduceIte, simprocAttr, netD, w1]
      | true =>
        simp (config := { maxSteps := 500000 }) only [↓vp, vv, implies_true, forall_const, undef, InI, ↓reduceIte, simprocAttr, c6, w1]
        refine nx at3 j _ _ o3 (.inr he2) ⟨?_, ?_, ?_, ?_, ?_, ?_⟩ ⟨?_, ?_, ?_, ?_, ?_⟩ ?_ ?_ ?_ ?_ ?_ ?_ ?_ ?_ ?_ ?_ ?_ <;> simp (config := { maxSteps := 500000 }) only [↓vp, vv, implies_true, forall_const, undef, InI, ↓reduceIte, simprocAttr, netD, w1]
  · have hj2 : j = n.ports.length := by omega
    have hj' : ¬ (j : Int) < n.ports.length := by omega
    simp (config := { maxSteps := 500000 }) only [↓vp, vv, implies_true, forall_const, undef, InI, ↓reduceIte, simprocAttr, c20_5, PF, hj']
    refine hX _ at2 e o2 he ⟨?_, ?_, ?_, ?_, ?_, ?_⟩ ⟨?_, ?_, ?_, ?_, ?_⟩ <;> simp (config := { maxSteps := 500000 }) only [↓vp, vv, implies_true, forall_const, undef, InI, ↓reduceIte, simprocAttr, ]
end Go.Proofs.Ytkjibmfggeibjaa
/- Plans out of a source: the segments that lead on; the way that is laid. -/
namespace Go.Proofs.Ytkjibmfggeibjaa
open Go
set_option linter.unusedVariables false
set_option linter.unusedSimpArgs false
set_option maxRecDepth 100000

/-- A segment that leads on. -/
def OutOk (n : Net) (R : List Int) (rate at' : Int) (k : Nat) : Prop := ∃ s r, n.segs[k]? = some s ∧ R[k]? = some r ∧ (s.fr = at' ∨ s.to = at') ∧ at' < s.fr + s.to - at' ∧ absI r + rate ≤ minC s.cap
theorem most_min (s : Seg) : most s = minC s.cap := by unfold most minC; split <;> split <;> omega
set_option maxHeartbeats 16000000 in
theorem pl5 (i : Nm) (L : List (List D)) (n : Net) (hv : NetV n) (g : Nat) (R Q : List Int) (U : List Bool) (tu : Bool) (c a at0 rate : Int) (gw : Nat) (W : List Nat) (hRl : R.length = n.segs.length) (hRb : ∀ r ∈ R, -1000 ≤ r ∧ r ≤ 1000) (hr : 1 ≤ rate ∧ rate ≤ 300) (h0 : 0 ≤ at0 ∧ at0 < 24)
    (s : St) (Qx : Ex → St → Prop) (at1 : Int) (hw : Weak [i] s ⟨fr (PF i tu c [(9, di a), (10, di at0), (11, di rate), (12, .own (i.1 + 1, 1012) gw 0 W.length), (13, di (-1)), (16, .own (i.1 + 1, 1016) 0 0 0), (139, .sl (n.segs.map Seg.row)), (140, di n.segs.length), (141, di 0)]), PH i n g R Q U L at1 (BO i gw W 0 [])⟩)
    (hX : ∀ F O go, (∀ k ∈ O, OutOk n R rate at0 k) → O.length ≤ 32 → PFk i tu c F → PFw a at0 rate i gw W (-1) F → F 16 = .own (i.1 + 1, 1016) go 0 O.length → Qx (.exit 8) ⟨F, PH i n g R Q U L at1 (BO i gw W go O)⟩) :
    vc TPl (fun t => (i.1 + 1, t)) [i] (.loop c20_8) Qx s := by
  have hsl := hv.sl
  rw [vc_loop]
  refine ⟨fun m s => ∃ O go j, j + m = n.segs.length ∧ O.length ≤ j ∧ (∀ k ∈ O, OutOk n R rate at0 k) ∧ s = ⟨fr (PF i tu c [(9, di a), (10, di at0), (11, di rate), (12, .own (i.1 + 1, 1012) gw 0 W.length), (13, di (-1)), (16, .own (i.1 + 1, 1016) go 0 O.length), (139, .sl (n.segs.map Seg.row)), (140, di n.segs.length), (141, di (j : Nat))]), PH i n g R Q U L at1 (BO i gw W go O)⟩, ⟨n.segs.length, _, hw, [], 0, 0, by omega, Nat.le_refl _, fun k hk => (by cases hk), rfl⟩, ?_⟩
  rintro m s ⟨O, go, j, hm, hO, hOk, rfl⟩
  by_cases hj : j < n.segs.length
  · have hj' : (j : Int) < n.segs.length := by omega
    have hjn := idx_nn j
    have w1 := idx_next (j := j) (by omega)
    have hjq : j < R.length := by omega
    have hjq' : (j : Int) < R.length := by omega
    have hg := getD_map Seg.row n.segs j hj
    have hg2 := iRow_at R j hjq
    have hx : n.segs[j]? = some n.segs[j] := List.getElem?_eq_getElem hj
    have hy : R[j]? = some R[j] := List.getElem?_eq_getElem hjq
    have hb := hRb _ (List.getElem_mem hjq)
    have hse := hv.se _ (List.getElem_mem hj)
    have hnl := hv.nl
    generalize n.segs[j] = x at hg hx hse
    generalize R[j] = r at hg2 hy hb
    have nx : ∀ (O' : List Nat) (go' : Nat) (F : Fr) (H : Hp), O'.length ≤ j + 1 → (∀ k ∈ O', OutOk n R rate at0 k) → PFk i tu c F → PFw a at0 rate i gw W (-1) F → F 16 = .own (i.1 + 1, 1016) go' 0 O'.length → F 139 = .sl (n.segs.map Seg.row) → F 140 = di n.segs.length → F 141 = di (j + 1 : Nat) →
        H i = some (sE L at1) → H (i.1 + 1, 3) = some ⟨0, 6, [netD n]⟩ → H (i.1 + 1, 4) = some ⟨0, 3, [[.mt, .mt, .mt]]⟩ → H (i.1 + 1, 5) = some ⟨0, 3, [[.own (i.1 + 1, 25) 0 0 R.length, .own (i.1 + 1, 29) 0 0 Q.length, .own (i.1 + 1, 1005) g 0 U.length]]⟩ → H (i.1 + 1, 25) = some ⟨0, 1, R.map iRow⟩ → H (i.1 + 1, 29) = some ⟨0, 1, Q.map iRow⟩ → H (i.1 + 1, 1005) = some ⟨g, 1, U.map bRow⟩ → H (i.1 + 1, 1012) = some ⟨gw, 1, W.map nRow⟩ → H (i.1 + 1, 1016) = some ⟨go', 1, O'.map nRow⟩ →
        ∃ k' s', k' < m ∧ Weak [i] ⟨F, H⟩ s' ∧ ∃ O go j, j + k' = n.segs.length ∧ O.length ≤ j ∧ (∀ k ∈ O, OutOk n R rate at0 k) ∧ s' = ⟨fr (PF i tu c [(9, di a), (10, di at0), (11, di rate), (12, .own (i.1 + 1, 1012) gw 0 W.length), (13, di (-1)), (16, .own (i.1 + 1, 1016) go 0 O.length), (139, .sl (n.segs.map Seg.row)), (140, di n.segs.length), (141, di (j : Nat))]), PH i n g R Q U L at1 (BO i gw W go O)⟩ := by
      rintro O' go' F H hO' hOk' ⟨f0, f3, f4, f5, f7, f8⟩ ⟨f9, f10, f11, f12, f13⟩ f16 f90 f91 f92 h0 h3 h4 h5 h25 h29 h105 h112 h116
      exact ⟨m - 1, _, by omega, (weak_eq [] [i, (i.1 + 1, 3), (i.1 + 1, 4), (i.1 + 1, 5), (i.1 + 1, 25), (i.1 + 1, 29), (i.1 + 1, 1005), (i.1 + 1, 1012), (i.1 + 1, 1016)] (PF i tu c [(9, di a), (10, di at0), (11, di rate), (12, .own (i.1 + 1, 1012) gw 0 W.length), (13, di (-1)), (16, .own (i.1 + 1, 1016) go' 0 O'.length), (139, .sl (n.segs.map Seg.row)), (140, di n.segs.length), (141, di (j + 1 : Nat))]) (by simp (config := { maxSteps := 500000 }) only [↓vp, vv, implies_true, forall_const, undef, InI, ↓reduceIte, simprocAttr, coverS, PF, PH, BO, netD, iRow, bRow, nRow, f0, f3, f4, f5, f7, f8, f9, f10, f11, f12, f13, f16, f90, f91, f92, h0, h3, h4, h5, h25, h29, h105, h112, h116]) (by simp (config := { maxSteps := 500000 }) only [↓vp, vv, implies_true, forall_const, undef, InI, ↓reduceIte, simprocAttr, refsF, PF, PH, BO, netD, iRow, bRow, nRow, f0, f3, f4, f5, f7, f8, f9, f10, f11, f12, f13, f16, f90, f91, f92, h0, h3, h4, h5, h25, h29, h105, h112, h116]) (by simp (config := { maxSteps := 500000 }) only [↓vp, vv, implies_true, forall_const, undef, InI, ↓reduceIte, simprocAttr, PF, PH, BO, netD, iRow, bRow, nRow, f0, f3, f4, f5, f7, f8, f9, f10, f11, f12, f13, f16, f90, f91, f92, h0, h3, h4, h5, h25, h29, h105, h112, h116]) (by simp) (by simp (config := { maxSteps := 500000 }) only [↓vp, vv, implies_true, forall_const, undef, InI, ↓reduceIte, simprocAttr, PF, PH, BO, netD, iRow, bRow, nRow, f0, f3, f4, f5, f7, f8, f9, f10, f11, f12, f13, f16, f90, f91, f92, h0, h3, h4, h5, h25, h29, h105, h112, h116]; try rfl)), O', go', j + 1, by omega, hO', hOk', rfl⟩
    have w2 : IntKind.i64.wrap (x.fr + x.to) = x.fr + x.to := wrap_i (by omega)
    have w3 : IntKind.i64.wrap (x.fr + x.to - at0) = x.fr + x.to - at0 := wrap_i (by omega)
    have ha : 0 ≤ absI r ∧ absI r ≤ 1000 := by unfold absI; split <;> omega
    have w4 : IntKind.i64.wrap (absI r + rate) = absI r + rate := wrap_i (by omega)
    have hm2 : (if x.cap < 1000 then x.cap else 1000) = minC x.cap := most_min x
    have hab : -1000000 ≤ r ∧ r ≤ 1000000 := by omega
    have key : ∀ (b1 b2 : Bool), (x.fr == at0) = b1 → (x.to == at0) = b2 → (b1 || b2) = false → vc TPl (fun t => (i.1 + 1, t)) [i] c20_8 (loopQ [i] (fun m s => ∃ O go j, j + m = n.segs.length ∧ O.length ≤ j ∧ (∀ k ∈ O, OutOk n R rate at0 k) ∧ s = ⟨fr (PF i tu c [(9, di a), (10, di at0), (11, di rate), (12, .own (i.1 + 1, 1012) gw 0 W.length), (13, di (-1)), (16, .own (i.1 + 1, 1016) go 0 O.length), (139, .sl (n.segs.map Seg.row)), (140, di n.segs.length), (141, di (j : Nat))]), PH i n g R Q U L at1 (BO i gw W go O)⟩) m Qx) ⟨fr (PF i tu c [(9, di a), (10, di at0), (11, di rate), (12, .own (i.1 + 1, 1012) gw 0 W.length), (13, di (-1)), (16, .own (i.1 + 1, 1016) go 0 O.length), (139, .sl (n.segs.map Seg.row)), (140, di n.segs.length), (141, di (j : Nat))]), PH i n g R Q U L at1 (BO i gw W go O)⟩ := by
      intro b1 b2 c1 c2 hbb
      cases b1 with
      | true => cases hbb
      | false =>
        cases b2 with
        | true => cases hbb
        | false =>
          simp (config := { maxSteps := 500000 }) only [↓vp, vv, implies_true, forall_const, undef, InI, ↓reduceIte, simprocAttr, c20_8, c20_7, c20_6, TPl, PF, PH, BO, netD, hj', hjn, Int.toNat_natCast, hg, Seg.row, c1, c2, w1]
          refine nx O go _ _ (by omega) hOk ⟨?_, ?_, ?_, ?_, ?_, ?_⟩ ⟨?_, ?_, ?_, ?_, ?_⟩ ?_ ?_ ?_ ?_ ?_ ?_ ?_ ?_ ?_ ?_ ?_ ?_ ?_ <;> simp (config := { maxSteps := 500000 }) only [↓vp, vv, implies_true, forall_const, undef, InI, ↓reduceIte, simprocAttr, netD, w1]
    have y1 : (O.length + 1) * 8 ≤ 140737488355328 := by omega
    have y2 : O.length + 1 ≤ 4611686018427387904 := by omega
    cases c1 : (x.fr == at0) with
    | true =>
      cases c3 : decide (at0 < x.fr + x.to - at0) with
      | false =>
        simp (config := { maxSteps := 500000 }) only [↓vp, vv, implies_true, forall_const, undef, InI, ↓reduceIte, simprocAttr, c20_8, c20_7, c20_6, TPl, selAbs, PF, PH, BO, netD, hj', hjn, hjq, hjq', Int.toNat_natCast, hg, hg2, hab, hm2, w2, w3, w4, Seg.row, c1, c3, w1]
        refine nx O go _ _ (by omega) hOk ⟨?_, ?_, ?_, ?_, ?_, ?_⟩ ⟨?_, ?_, ?_, ?_, ?_⟩ ?_ ?_ ?_ ?_ ?_ ?_ ?_ ?_ ?_ ?_ ?_ ?_ ?_ <;> simp (config := { maxSteps := 500000 }) only [↓vp, vv, implies_true, forall_const, undef, InI, ↓reduceIte, simprocAttr, netD, w1, nRow, List.map_append]
      | true =>
        cases c4 : decide (absI r + rate ≤ minC x.cap) with
        | false =>
          simp (config := { maxSteps := 500000 }) only [↓vp, vv, implies_true, forall_const, undef, InI, ↓reduceIte, simprocAttr, c20_8, c20_7, c20_6, TPl, selAbs, PF, PH, BO, netD, hj', hjn, hjq, hjq', Int.toNat_natCast, hg, hg2, hab, hm2, w2, w3, w4, Seg.row, c1, c3, c4, w1]
          refine nx O go _ _ (by omega) hOk ⟨?_, ?_, ?_, ?_, ?_, ?_⟩ ⟨?_, ?_, ?_, ?_, ?_⟩ ?_ ?_ ?_ ?_ ?_ ?_ ?_ ?_ ?_ ?_ ?_ ?_ ?_ <;> simp (config := { maxSteps := 500000 }) only [↓vp, vv, implies_true, forall_const, undef, InI, ↓reduceIte, simprocAttr, netD, w1, nRow, List.map_append]
        | true =>
          have hnew : OutOk n R rate at0 j := ⟨x, r, hx, hy, (.inl (by simpa using c1)), by simpa using c3, by simpa using c4⟩
          simp (config := { maxSteps := 500000 }) only [↓vp, vv, implies_true, forall_const, undef, InI, ↓reduceIte, simprocAttr, c20_8, c20_7, c20_6, TPl, selAbs, PF, PH, BO, netD, hj', hjn, hjq, hjq', Int.toNat_natCast, hg, hg2, hab, hm2, w2, w3, w4, Seg.row, c1, c3, c4, y1, y2, w1]
          refine nx (O ++ [j]) (go + 1) _ _ (by rw [List.length_append, List.length_singleton]; omega) (fun k hk => by
            rcases List.mem_append.1 hk with hk | hk
            · exact hOk k hk
            · rw [List.mem_singleton.1 hk]; exact hnew) ⟨?_, ?_, ?_, ?_, ?_, ?_⟩ ⟨?_, ?_, ?_, ?_, ?_⟩ ?_ ?_ ?_ ?_ ?_ ?_ ?_ ?_ ?_ ?_ ?_ ?_ ?_ <;> simp (config := { maxSteps := 500000 }) only [↓vp, vv, implies_true, forall_const, undef, InI, ↓reduceIte, simprocAttr, netD, w1, nRow, List.map_append]
    | false =>
      cases c2 : (x.to == at0) with
      | true =>
        cases c3 : decide (at0 < x.fr + x.to - at0) with
        | false =>
          simp (config := { maxSteps := 500000 }) only [↓vp, vv, implies_true, forall_const, undef, InI, ↓reduceIte, simprocAttr, c20_8, c20_7, c20_6, TPl, selAbs, PF, PH, BO, netD, hj', hjn, hjq, hjq', Int.toNat_natCast, hg, hg2, hab, hm2, w2, w3, w4, Seg.row, c1, c2, c3, w1]
          refine nx O go _ _ (by omega) hOk ⟨?_, ?_, ?_, ?_, ?_, ?_⟩ ⟨?_, ?_, ?_, ?_, ?_⟩ ?_ ?_ ?_ ?_ ?_ ?_ ?_ ?_ ?_ ?_ ?_ ?_ ?_ <;> simp (config := { maxSteps := 500000 }) only [↓vp, vv, implies_true, forall_const, undef, InI, ↓reduceIte, simprocAttr, netD, w1, nRow, List.map_append]
        | true =>
          cases c4 : decide (absI r + rate ≤ minC x.cap) with
          | false =>
            simp (config := { maxSteps := 500000 }) only [↓vp, vv, implies_true, forall_const, undef, InI, ↓reduceIte, simprocAttr, c20_8, c20_7, c20_6, TPl, selAbs, PF, PH, BO, netD, hj', hjn, hjq, hjq', Int.toNat_natCast, hg, hg2, hab, hm2, w2, w3, w4, Seg.row, c1, c2, c3, c4, w1]
            refine nx O go _ _ (by omega) hOk ⟨?_, ?_, ?_, ?_, ?_, ?_⟩ ⟨?_, ?_, ?_, ?_, ?_⟩ ?_ ?_ ?_ ?_ ?_ ?_ ?_ ?_ ?_ ?_ ?_ ?_ ?_ <;> simp (config := { maxSteps := 500000 }) only [↓vp, vv, implies_true, forall_const, undef, InI, ↓reduceIte, simprocAttr, netD, w1, nRow, List.map_append]
          | true =>
            have hnew : OutOk n R rate at0 j := ⟨x, r, hx, hy, (.inr (by simpa using c2)), by simpa using c3, by simpa using c4⟩
            simp (config := { maxSteps := 500000 }) only [↓vp, vv, implies_true, forall_const, undef, InI, ↓reduceIte, simprocAttr, c20_8, c20_7, c20_6, TPl, selAbs, PF, PH, BO, netD, hj', hjn, hjq, hjq', Int.toNat_natCast, hg, hg2, hab, hm2, w2, w3, w4, Seg.row, c1, c2, c3, c4, y1, y2, w1]
            refine nx (O ++ [j]) (go + 1) _ _ (by rw [List.length_append, List.length_singleton]; omega) (fun k hk => by
              rcases List.mem_append.1 hk with hk | hk
              · exact hOk k hk
              · rw [List.mem_singleton.1 hk]; exact hnew) ⟨?_, ?_, ?_, ?_, ?_, ?_⟩ ⟨?_, ?_, ?_, ?_, ?_⟩ ?_ ?_ ?_ ?_ ?_ ?_ ?_ ?_ ?_ ?_ ?_ ?_ ?_ <;> simp (config := { maxSteps := 500000 }) only [↓vp, vv, implies_true, forall_const, undef, InI, ↓reduceIte, simprocAttr, netD, w1, nRow, List.map_append]
      | false => exact key _ _ c1 c2 rfl
  · have hj2 : j = n.segs.length := by omega
    have hj' : ¬ (j : Int) < n.segs.length := by omega
    simp (config := { maxSteps := 500000 }) only [↓vp, vv, implies_true, forall_const, undef, InI, ↓reduceIte, simprocAttr, c20_8, PF, hj']
    refine hX _ O go hOk (by omega) ⟨?_, ?_, ?_, ?_, ?_, ?_⟩ ⟨?_, ?_, ?_, ?_, ?_⟩ ?_ <;> simp (config := { maxSteps := 500000 }) only [↓vp, vv, implies_true, forall_const, undef, InI, ↓reduceIte, simprocAttr, ]
end Go.Proofs.Ytkjibmfggeibjaa
/- Compiled code of some functions (printed by a program), each checked by the kernel. -/
namespace Go.Proofs.Ytkjibmfggeibjaa
open Go
set_option maxRecDepth 100000
def c92_1 : C := (.seq (.ops true [oP 12 (.fa 1 (.t 2)), oA 13 (.ld 1 false (.t 12)) [0], oP 14 (.fa 2 (.t 2)), oA 15 (.ld 1 false (.t 14)) [2], oA 4 (.mv (.t 13)) [0, 1], oA 5 (.mv (.t 15)) [2, 1, 0, 4, 3]]) .ret)
def c92 : C := (.seq (.ops false [oP 2 (.box 7 (.t 0)), oP 4 (.mv (cI 0)), oP 5 (.mv (cI 0))]) (.seq (.seq (.ops false [oP 6 (.mv (.t 1)), oP 7 (.bin .lss (.t 6) (cI 0))]) (.cond (.t 7) (.seq (.ops true [oP 8 (.fa 2 (.t 2)), oA 9 (.ld 1 false (.t 8)) [0], oP 10 (.fa 1 (.t 2)), oA 11 (.ld 1 false (.t 10)) [2], oA 4 (.mv (.t 9)) [0, 1], oA 5 (.mv (.t 11)) [2, 1, 0, 4, 3]]) .ret) .skip)) c92_1))
def r92 : List RV := [(.tmp 4), (.tmp 5)]
theorem c92_ok : ∃ code, Try.f92.body = some code ∧ compC Try.prog Try.f92.ntmps code = some (C.strip c92) := ⟨_, rfl, by kernel_rfl⟩
theorem r92_ok : compRes Try.prog Try.f92.results.toList = some r92 := by kernel_rfl
theorem f92_ok : fnOk Try.prog 92 = true := by kernel_rfl
def c93 : C := (.seq (.ops false [oP 2 (.mv (cI 0))]) (.seq (.ops false [oP 3 (.mv (.t 0)), oP 4 (.mv (.t 0)), oP 5 (.neg (.t 4)), oP 6 (.mnx true (.t 3) (.t 5)), oP 2 (.mv (.t 6))]) .ret))
def r93 : List RV := [(.tmp 2)]
theorem c93_ok : ∃ code, Try.f93.body = some code ∧ compC Try.prog Try.f93.ntmps code = some (C.strip c93) := ⟨_, rfl, by kernel_rfl⟩
theorem r93_ok : compRes Try.prog Try.f93.results.toList = some r93 := by kernel_rfl
theorem f93_ok : fnOk Try.prog 93 = true := by kernel_rfl
end Go.Proofs.Ytkjibmfggeibjaa

/- The reference's Ends and Abs. -/
namespace Go.Proofs.Ytkjibmfggeibjaa
open Go
set_option linter.unusedVariables false
set_option linter.unusedSimpArgs false
set_option maxRecDepth 100000

set_option maxHeartbeats 4000000 in
theorem rends_c (s : Seg) (r : Int) (nn : Nm) : CallsA Try.prog 92 [.agg s.row, di r] Hp.none nn (Pu (.tup [di (frOf (s, r)), di (toOf (s, r))]) Hp.none) := by
  obtain ⟨code, h1, h2⟩ := c92_ok
  refine callsA_of (T0_ok _) mixed (N := fun t => (0, t)) Try.func92 h1 h2 r92_ok [] false js_nil js_nil' (by simp [Try.f92]) ?_
  by_cases a1 : r < 0 <;> simp (config := { maxSteps := 500000 }) only [↓vp, vv, implies_true, forall_const, undef, InI, ↓reduceIte, simprocAttr, c92, r92, c92_1, Seg.row, a1, Pu, frOf, toOf]
set_option maxHeartbeats 1000000 in
theorem rabs_c (x : Int) (h : -1000000 ≤ x ∧ x ≤ 1000000) (nn : Nm) : CallsA Try.prog 93 [di x] Hp.none nn (Pu (di (absI x)) Hp.none) := by
  obtain ⟨code, h1, h2⟩ := c93_ok
  refine callsA_of (T0_ok _) mixed (N := fun t => (0, t)) Try.func93 h1 h2 r93_ok [] false js_nil js_nil' (by simp [Try.f93]) ?_
  have w1 : IntKind.i64.wrap (0 - x) = -x := by rw [wrap_i (by omega)]; omega
  have e : (if x < -x then -x else x) = absI x := rfl
  simp (config := { maxSteps := 500000 }) only [↓vp, vv, implies_true, forall_const, undef, InI, ↓reduceIte, simprocAttr, c93, r93, w1, e, Pu]
theorem tc_rends {T : Tbl} (hT : TblOk Try.prog T) : TblOk Try.prog (tc 92 (rowPu selEnds) T) :=
  tc_pu f92_ok (fun args pre d h hp nn => by
    unfold selEnds at h
    split at h
    · split at h
      · rename_i hs
        cases h
        rw [segOf1_eq hs]
        exact rends_c _ _ nn
      · cases h
    · cases h) hT
theorem tc_rabs {T : Tbl} (hT : TblOk Try.prog T) : TblOk Try.prog (tc 93 (rowPu selAbs) T) :=
  tc_pu f93_ok (fun args pre d h hp nn => by
    unfold selAbs at h
    split at h <;> cases h
    exact rabs_c _ hp nn) hT
end Go.Proofs.Ytkjibmfggeibjaa
/- Compiled code of some functions (printed by a program), each checked by the kernel. -/
namespace Go.Proofs.Ytkjibmfggeibjaa
open Go
set_option maxRecDepth 100000
def c52_1 : C := (.seq (.ops false [oP 13 (.ld 6 true (.t 2)), oP 14 (.ld 3 true (.t 3)), oP 15 (.call 119 [(.t 13), (.t 14)]), oP 4 (.mv (.t 15)), oP 5 (.mv (cI 0))]) .ret)
def c52 : C := (.seq (.ops false [oP 2 (.box 6 (.t 0)), oP 3 (.box 3 (.t 1)), oP 4 (.mv (.c .mt)), oP 5 (.mv (cI 0))]) (.seq (.seq (.ops false [oP 7 (.ld 6 true (.t 2)), oP 8 (.ld 3 true (.t 3)), oB 9 (.call 56 [(.t 7), (.t 8)]), oP 6 (.mv (.t 9))]) (.seq (.ops false [oP 10 (.mv (.t 6)), oP 11 (.bin .neq (.t 10) (cI 0))]) (.cond (.t 11) (.seq (.ops false [oP 12 (.mv (.t 6)), oP 4 (.mv (.c .mt)),
  oP 5 (.mv (.t 12))]) .ret) .skip))) c52_1))
def r52 : List RV := [(.tmp 4), (.tmp 5)]
theorem c52_ok : ∃ code, Try.f52.body = some code ∧ compC Try.prog Try.f52.ntmps code = some (C.strip c52) := ⟨_, rfl, by kernel_rfl⟩
theorem r52_ok : compRes Try.prog Try.f52.results.toList = some r52 := by kernel_rfl
theorem f52_ok : fnOk Try.prog 52 = true := by kernel_rfl
def c54_1 : C := (.seq (.block 1 (.seq (.ops false [oP 23 (.iaS 1 (.t 19) (.t 21)), oP 24 (.ld 1 false (.t 23)), oP 11 (.mv (.t 24))]) (.ops false [oP 25 (.mv (.t 8)), oP 26 (.mv (.t 11)), oP 27 (.mnx true (cI 0) (.t 26)), oP 28 (.bin .add (.t 25) (.t 27)), oP 29 (.mv (.t 9)), oP 30 (.mv (.t 11)), oP 31 (.neg (.t 30)), oP 32 (.mnx true (cI 0) (.t 31)), oP 33 (.bin .add (.t 29) (.t 32)), oP 8 (.mv (.t 28)),
  oP 9 (.mv (.t 33))]))) (.ops false [oP 34 (.bin .add (.t 21) (cI 1)), oP 21 (.mv (.t 34))]))
def c54_2 : C := (.seq (.ops false [oP 22 (.bin .lss (.t 21) (.t 20))]) (.seq (.cond (.t 22) .skip (.exit 0)) c54_1))
def c54_3 : C := (.seq (.ops false [oP 35 (.mv (.t 8)), oP 36 (.mv (.t 9)), oP 4 (.mv (.t 35)), oP 5 (.mv (.t 36)), oP 6 (.mv (cI 0))]) .ret)
def c54_4 : C := (.seq (.ops false [oP 8 (.mv (cI 0)), oP 9 (.mv (cI 0))]) (.seq (.seq (.ops false [oP 18 (.fa 1 (.t 3)), oP 19 (.ld 1 false (.t 18)), oP 20 (.len (.t 19)), oP 21 (.mv (cI 0))]) (.block 0 (.loop c54_2))) c54_3))
def c54 : C := (.seq (.ops false [oP 2 (.box 6 (.t 0)), oP 3 (.box 3 (.t 1)), oP 4 (.mv (cI 0)), oP 5 (.mv (cI 0)), oP 6 (.mv (cI 0))]) (.seq (.seq (.ops false [oP 12 (.ld 6 true (.t 2)), oP 13 (.ld 3 true (.t 3)), oB 14 (.call 56 [(.t 12), (.t 13)]), oP 7 (.mv (.t 14))]) (.seq (.ops false [oP 15 (.mv (.t 7)), oP 16 (.bin .neq (.t 15) (cI 0))]) (.cond (.t 16) (.seq (.ops false [oP 17 (.mv (.t 7)),
  oP 4 (.mv (cI 0)), oP 5 (.mv (cI 0)), oP 6 (.mv (.t 17))]) .ret) .skip))) c54_4))
def r54 : List RV := [(.tmp 4), (.tmp 5), (.tmp 6)]
theorem c54_ok : ∃ code, Try.f54.body = some code ∧ compC Try.prog Try.f54.ntmps code = some (C.strip c54) := ⟨_, rfl, by kernel_rfl⟩
theorem r54_ok : compRes Try.prog Try.f54.results.toList = some r54 := by kernel_rfl
theorem f54_ok : fnOk Try.prog 54 = true := by kernel_rfl
def c56_1 : C := (.ops false [oP 68 (.bin .add (.t 47) (cI 1)), oP 47 (.mv (.t 68))])
def c56_2 : C := (.seq (.block 1 (.seq (.ops false [oP 49 (.mv (.t 47)), oP 50 (.iaS 1 (.t 45) (.t 47)), oP 51 (.ld 1 false (.t 50)), oP 6 (.mv (.t 49)), oP 7 (.mv (.t 51))]) (.seq (.ops false [oP 52 (.fa 1 (.t 2)), oP 53 (.ld 1 false (.t 52)), oP 54 (.mv (.t 6)), oP 55 (.iaS 7 (.t 53) (.t 54)), oP 56 (.fa 3 (.t 55)), oP 57 (.ld 1 false (.t 56)), oP 58 (.mnx false (cI 1000) (.t 57)), oP 8 (.mv (.t 58))])
  (.seq (.ops false [oP 59 (.mv (.t 7)), oP 60 (.mv (.t 8)), oP 61 (.neg (.t 60)), oP 62 (.bin .lss (.t 59) (.t 61)), oP 63 (.mv (.t 62)), oG 64 63 false (.mv (.t 7)), oG 65 63 false (.mv (.t 8)), oG 66 63 false (.bin .gtr (.t 64) (.t 65)), oP 67 (.pick (.t 63) (cB true) (.t 66))]) (.cond (.t 67) (.seq (.ops false [oP 4 (.mv (cI 1))]) .ret) .skip))))) c56_1)
def c56_3 : C := (.seq (.ops false [oP 48 (.bin .lss (.t 47) (.t 46))]) (.seq (.cond (.t 48) .skip (.exit 0)) c56_2))
def c56_4 : C := (.ops false [oP 82 (.bin .add (.t 72) (cI 1)), oP 72 (.mv (.t 82))])
def c56_5 : C := (.seq (.block 3 (.seq (.ops false [oP 74 (.iaS 1 (.t 70) (.t 72)), oP 75 (.ld 1 false (.t 74)), oP 10 (.mv (.t 75))]) (.seq (.ops false [oP 76 (.mv (.t 10)), oP 77 (.bin .lss (.t 76) (cI (-1000))), oP 78 (.mv (.t 77)), oG 79 78 false (.mv (.t 10)), oG 80 78 false (.bin .gtr (.t 79) (cI 1000)), oP 81 (.pick (.t 78) (cB true) (.t 80))]) (.cond (.t 81) (.seq (.ops false [oP 4 (.mv (cI 1))]) .ret)
  .skip)))) c56_4)
def c56_6 : C := (.seq (.ops false [oP 73 (.bin .lss (.t 72) (.t 71))]) (.seq (.cond (.t 73) .skip (.exit 2)) c56_5))
def c56_7 : C := (.ops false [oP 99 (.bin .add (.t 86) (cI 1)), oP 86 (.mv (.t 99))])
def c56_8 : C := (.seq (.block 5 (.seq (.ops false [oP 88 (.mv (.t 86)), oP 11 (.mv (.t 88))]) (.seq (.ops false [oP 90 (.ld 6 true (.t 2)), oP 91 (.ld 3 true (.t 3)), oP 92 (.mv (.t 11)), oB 93 (.call 124 [(.t 90), (.t 91), (.t 92)]), oP 89 (.mv (.t 93)), oP 94 (.ext (.t 89) 0), oP 95 (.ext (.t 89) 1), oP 12 (.mv (.t 94)), oP 13 (.mv (.t 95))]) (.seq (.ops false [oP 96 (.mv (.t 12)), oP 97 (.mv (.t 13)),
  oP 98 (.bin .neq (.t 96) (.t 97))]) (.cond (.t 98) (.seq (.ops false [oP 4 (.mv (cI 12))]) .ret) .skip))))) c56_7)
def c56_9 : C := (.seq (.ops false [oP 87 (.bin .lss (.t 86) (.t 85))]) (.seq (.cond (.t 87) .skip (.exit 4)) c56_8))
def c56_10 : C := (.seq (.ops false [oP 4 (.mv (cI 0))]) .ret)
def c56_11 : C := (.seq (.seq (.ops true [oP 100 (.ld 6 true (.t 2)), oP 101 (.ld 3 true (.t 3)), oA 102 (.call 119 [(.t 100), (.t 101)]) [1, 0], oA 103 (.len (.t 102)) [0, 1, 2], oP 104 (.fa 0 (.t 2)), oA 105 (.ld 1 false (.t 104)) [4], oA 106 (.len (.t 105)) [4, 5], oA 107 (.bin .neq (.t 103) (.t 106)) [5, 4, 2, 1, 0, 6, 3]]) (.cond (.t 107) (.seq (.ops false [oP 4 (.mv (cI 13))]) .ret) .skip)) c56_10)
def c56_12 : C := (.seq (.seq (.ops false [oP 83 (.fa 0 (.t 2)), oP 84 (.ld 1 false (.t 83)), oP 85 (.len (.t 84)), oP 86 (.mv (cI 0))]) (.block 4 (.loop c56_9))) c56_11)
def c56_13 : C := (.seq (.seq (.ops false [oP 69 (.fa 1 (.t 3)), oP 70 (.ld 1 false (.t 69)), oP 71 (.len (.t 70)), oP 72 (.mv (cI 0))]) (.block 2 (.loop c56_6))) c56_12)
def c56_14 : C := (.seq (.seq (.ops false [oP 44 (.fa 0 (.t 3)), oP 45 (.ld 1 false (.t 44)), oP 46 (.len (.t 45)), oP 47 (.mv (cI 0))]) (.block 0 (.loop c56_3))) c56_13)
def c56_15 : C := (.seq (.seq (.ops false [oP 19 (.fa 0 (.t 3)), oP 20 (.ld 1 false (.t 19)), oP 21 (.len (.t 20)), oP 22 (.fa 1 (.t 2)), oP 23 (.ld 1 false (.t 22)), oP 24 (.len (.t 23)), oP 25 (.bin .neq (.t 21) (.t 24)), oP 26 (.mv (.t 25)), oG 27 26 false (.fa 1 (.t 3)), oG 28 26 false (.ld 1 false (.t 27)), oG 29 26 false (.len (.t 28)), oG 30 26 false (.fa 2 (.t 2)), oG 31 26 false (.ld 1 false (.t 30)),
  oG 32 26 false (.len (.t 31)), oG 33 26 false (.bin .neq (.t 29) (.t 32)), oP 34 (.pick (.t 26) (cB true) (.t 33)), oP 35 (.mv (.t 34)), oG 36 35 false (.fa 2 (.t 3)), oG 37 35 false (.ld 1 false (.t 36)), oG 38 35 false (.len (.t 37)), oG 39 35 false (.fa 3 (.t 2)), oG 40 35 false (.ld 1 false (.t 39)), oG 41 35 false (.len (.t 40)), oG 42 35 false (.bin .neq (.t 38) (.t 41)),
  oP 43 (.pick (.t 35) (cB true) (.t 42))]) (.cond (.t 43) (.seq (.ops false [oP 4 (.mv (cI 9))]) .ret) .skip)) c56_14)
def c56 : C := (.seq (.ops false [oP 2 (.box 6 (.t 0)), oP 3 (.box 3 (.t 1)), oP 4 (.mv (cI 0))]) (.seq (.seq (.ops false [oP 14 (.ld 6 true (.t 2)), oB 15 (.call 99 [(.t 14)]), oP 5 (.mv (.t 15))]) (.seq (.ops false [oP 16 (.mv (.t 5)), oP 17 (.bin .neq (.t 16) (cI 0))]) (.cond (.t 17) (.seq (.ops false [oP 18 (.mv (.t 5)), oP 4 (.mv (.t 18))]) .ret) .skip))) c56_15))
def r56 : List RV := [(.tmp 4)]
theorem c56_ok : ∃ code, Try.f56.body = some code ∧ compC Try.prog Try.f56.ntmps code = some (C.strip c56) := ⟨_, rfl, by kernel_rfl⟩
theorem r56_ok : compRes Try.prog Try.f56.results.toList = some r56 := by kernel_rfl
theorem f56_ok : fnOk Try.prog 56 = true := by kernel_rfl
def c59_1 : C := (.seq (.ops false [oP 27 (.ld 6 true (.t 3)), oP 28 (.ld 3 true (.t 4)), oP 29 (.mv (.t 2)), oB 30 (.call 124 [(.t 27), (.t 28), (.t 29)]), oP 26 (.mv (.t 30)), oP 31 (.ext (.t 26) 0), oP 32 (.ext (.t 26) 1), oP 9 (.mv (.t 31)), oP 10 (.mv (.t 32))]) (.seq (.ops false [oP 33 (.mv (.t 9)), oP 6 (.mv (.t 33)), oP 7 (.mv (cI 0))]) .ret))
def c59_2 : C := (.seq (.seq (.ops false [oP 17 (.mv (.t 2)), oP 18 (.bin .lss (.t 17) (cI 0)), oP 19 (.mv (.t 18)), oG 20 19 false (.mv (.t 2)), oG 21 19 false (.fa 0 (.t 3)), oG 22 19 false (.ld 1 false (.t 21)), oG 23 19 false (.len (.t 22)), oG 24 19 false (.bin .geq (.t 20) (.t 23)), oP 25 (.pick (.t 19) (cB true) (.t 24))]) (.cond (.t 25) (.seq (.ops false [oP 6 (.mv (cI 0)), oP 7 (.mv (cI 8))]) .ret)
  .skip)) c59_1)
def c59 : C := (.seq (.ops false [oP 3 (.box 6 (.t 0)), oP 4 (.box 3 (.t 1)), oP 6 (.mv (cI 0)), oP 7 (.mv (cI 0))]) (.seq (.seq (.ops false [oP 11 (.ld 6 true (.t 3)), oP 12 (.ld 3 true (.t 4)), oB 13 (.call 56 [(.t 11), (.t 12)]), oP 8 (.mv (.t 13))]) (.seq (.ops false [oP 14 (.mv (.t 8)), oP 15 (.bin .neq (.t 14) (cI 0))]) (.cond (.t 15) (.seq (.ops false [oP 16 (.mv (.t 8)), oP 6 (.mv (cI 0)),
  oP 7 (.mv (.t 16))]) .ret) .skip))) c59_2))
def r59 : List RV := [(.tmp 6), (.tmp 7)]
theorem c59_ok : ∃ code, Try.f59.body = some code ∧ compC Try.prog Try.f59.ntmps code = some (C.strip c59) := ⟨_, rfl, by kernel_rfl⟩
theorem r59_ok : compRes Try.prog Try.f59.results.toList = some r59 := by kernel_rfl
theorem f59_ok : fnOk Try.prog 59 = true := by kernel_rfl
def c119_1 : C := (.ops false [oP 65 (.bin .add (.t 32) (cI 1)), oP 32 (.mv (.t 65))])
def c119_2 : C := (.seq (.block 5 (.seq (.ops false [oP 34 (.mv (.t 32)), oP 35 (.iaS 7 (.t 30) (.t 32)), oP 36 (.ld 7 true (.t 35)), oP 11 (.new [(.v (.string ({ data := #[] }))), (.v (.int .i64 0)), (.v (.int .i64 0)), (.v (.int .i64 0)), (.v (.int .i64 0)), (.v (.int .i64 0)), .mt]), oP 10 (.mv (.t 34)), oS (.st 7 (.t 11) (.t 36))]) (.seq (.ops false [oP 37 (.fa 0 (.t 3)), oP 38 (.ld 1 false (.t 37)),
  oP 39 (.mv (.t 10)), oP 40 (.iaS 1 (.t 38) (.t 39)), oP 41 (.ld 1 false (.t 40)), oP 42 (.bin .neq (.t 41) (cI 0))]) (.cond (.t 42) (.seq (.ops true [oP 44 (.ld 7 true (.t 11)), oP 45 (.fa 0 (.t 3)), oA 46 (.ld 1 false (.t 45)) [1], oP 47 (.mv (.t 10)), oA 48 (.iaS 1 (.t 46) (.t 47)) [1, 3, 2], oA 49 (.ld 1 false (.t 48)) [2, 3, 1, 4], ⟨(.some 50), Option.none, (.call 92 [(.t 44), (.t 49)]), 50,
  [4, 1, 3, 2, 5, 0], true⟩, oA 43 (.mv (.t 50)) [0, 5, 2, 3, 1, 4, 6], oA 51 (.ext (.t 43) 0) [6, 4, 1, 3, 2, 5, 0, 7], oA 52 (.ext (.t 43) 1) [6, 4, 1, 3, 2, 5, 0, 7], oA 12 (.mv (.t 51)) [7, 5, 4, 3, 2, 1, 0, 6, 8], oA 13 (.mv (.t 52)) [8, 7, 6, 5, 4, 3, 2, 1, 0, 10, 9]]) (.ops false [oP 53 (.mv (.t 9)), oP 54 (.mv (.t 53)), oG 55 54 true (.mv (.t 13)), oG 56 54 true (.mv (.t 8)),
  oG 57 54 true (.bin .neq (.t 55) (.t 56)), oG 58 54 true (.mv (.t 57)), oG 59 58 false (.mv (.t 6)), oG 60 58 false (.mv (.t 12)), oG 61 58 false (.iaS 1 (.t 59) (.t 60)), oG 62 58 false (.ld 1 false (.t 61)), oG 63 54 true (.pick (.t 58) (cB true) (.t 62)), oP 64 (.pick (.t 54) (.t 63) (cB false)), oP 9 (.mv (.t 64))])) .skip)))) c119_1)
def c119_3 : C := (.seq (.ops false [oP 33 (.bin .lss (.t 32) (.t 31))]) (.seq (.cond (.t 33) .skip (.exit 4)) c119_2))
def c119_4 : C := (.seq (.ops false [oP 66 (.mv (.t 9)), oP 67 (.mv (.t 66)), oG 68 67 true (.mv (.t 7)), oG 69 67 true (.bin .lss (.t 68) (cI 0)), oP 70 (.pick (.t 67) (.t 69) (cB false))]) (.cond (.t 70) (.ops false [oP 71 (.mv (.t 8)), oP 7 (.mv (.t 71))]) .skip))
def c119_5 : C := (.ops false [oP 72 (.bin .add (.t 21) (cI 1)), oP 21 (.mv (.t 72))])
def c119_6 : C := (.seq (.block 3 (.seq (.ops false [oP 23 (.mv (.t 21)), oP 8 (.mv (.t 23))]) (.seq (.ops false [oP 24 (.mv (.t 6)), oP 25 (.mv (.t 8)), oP 26 (.iaS 1 (.t 24) (.t 25)), oP 27 (.ld 1 false (.t 26)), oP 28 (.not (.t 27)), oP 9 (.mv (.t 28))]) (.seq (.seq (.ops false [oP 29 (.fa 1 (.t 2)), oP 30 (.ld 1 false (.t 29)), oP 31 (.len (.t 30)), oP 32 (.mv (cI 0))]) (.block 4 (.loop c119_3))) c119_4))))
  c119_5)
def c119_7 : C := (.seq (.ops false [oP 22 (.bin .lss (.t 21) (.t 20))]) (.seq (.cond (.t 22) .skip (.exit 2)) c119_6))
def c119_8 : C := (.seq (.ops false [oP 76 (.mv (.t 5)), oP 77 (.mv (.t 7)), oP 78 (.bsl 1 1 [(.v (.int .i64 0))] [(0, (.t 77))]), oP 79 (.app 1 8 (.t 76) (.t 78)), oP 5 (.mv (.t 79))]) (.ops false [oP 80 (.mv (.t 6)), oP 81 (.mv (.t 7)), oP 82 (.iaS 1 (.t 80) (.t 81)), oS (.st 1 (.t 82) (cB true))]))
def c119_9 : C := (.seq (.seq (.ops false [oP 73 (.mv (.t 7)), oP 74 (.bin .lss (.t 73) (cI 0))]) (.cond (.t 74) (.seq (.ops false [oP 75 (.mv (.t 5)), oP 4 (.mv (.t 75))]) .ret) .skip)) c119_8)
def c119_10 : C := (.block 1 (.seq (.ops false [oP 7 (.mv (cI (-1)))]) (.seq (.seq (.ops false [oP 18 (.fa 0 (.t 2)), oP 19 (.ld 1 false (.t 18)), oP 20 (.len (.t 19)), oP 21 (.mv (cI 0))]) (.block 2 (.loop c119_7))) c119_9)))
def c119 : C := (.seq (.ops false [oP 2 (.box 6 (.t 0)), oP 3 (.box 3 (.t 1)), oP 4 (.mv (.c .mt))]) (.seq (.ops false [oP 5 (.mv (.c .mt))]) (.seq (.ops false [oP 14 (.fa 0 (.t 2)), oP 15 (.ld 1 false (.t 14)), oP 16 (.len (.t 15)), oP 17 (.mks 1 1 [(.v (.bool false))] (.t 16)), oP 6 (.mv (.t 17))]) (.block 0 (.loop c119_10)))))
def r119 : List RV := [(.tmp 4)]
theorem c119_ok : ∃ code, Try.f119.body = some code ∧ compC Try.prog Try.f119.ntmps code = some (C.strip c119) := ⟨_, rfl, by kernel_rfl⟩
theorem r119_ok : compRes Try.prog Try.f119.results.toList = some r119 := by kernel_rfl
theorem f119_ok : fnOk Try.prog 119 = true := by kernel_rfl
def c124_1 : C := (.seq (.ops false [oP 51 (.mv (.t 13)), oP 52 (.mv (.t 2)), oP 53 (.bin .eql (.t 51) (.t 52))]) (.cond (.t 53) (.ops false [oP 54 (.mv (.t 8)), oP 55 (.fa 0 (.t 4)), oP 56 (.ld 1 false (.t 55)), oP 57 (.mv (.t 10)), oP 58 (.iaS 1 (.t 56) (.t 57)), oP 59 (.ld 1 false (.t 58)), oB 60 (.call 93 [(.t 59)]), oP 61 (.bin .add (.t 54) (.t 60)), oP 8 (.mv (.t 61))]) .skip))
def c124_2 : C := (.seq (.ops true [oP 31 (.ld 7 true (.t 11)), oP 32 (.fa 0 (.t 4)), oA 33 (.ld 1 false (.t 32)) [1], oP 34 (.mv (.t 10)), oA 35 (.iaS 1 (.t 33) (.t 34)) [1, 3, 2], oA 36 (.ld 1 false (.t 35)) [2, 3, 1, 4], ⟨(.some 37), Option.none, (.call 92 [(.t 31), (.t 36)]), 37, [4, 1, 3, 2, 5, 0], true⟩, oA 30 (.mv (.t 37)) [0, 5, 2, 3, 1, 4, 6], oA 38 (.ext (.t 30) 0) [6, 4, 1, 3, 2, 5, 0, 7],
  oA 39 (.ext (.t 30) 1) [6, 4, 1, 3, 2, 5, 0, 7], oA 12 (.mv (.t 38)) [7, 5, 4, 3, 2, 1, 0, 6, 8], oA 13 (.mv (.t 39)) [8, 7, 6, 5, 4, 3, 2, 1, 0, 10, 9]]) (.seq (.seq (.ops false [oP 40 (.mv (.t 12)), oP 41 (.mv (.t 2)), oP 42 (.bin .eql (.t 40) (.t 41))]) (.cond (.t 42) (.ops false [oP 43 (.mv (.t 9)), oP 44 (.fa 0 (.t 4)), oP 45 (.ld 1 false (.t 44)), oP 46 (.mv (.t 10)), oP 47 (.iaS 1 (.t 45)
  (.t 46)), oP 48 (.ld 1 false (.t 47)), oB 49 (.call 93 [(.t 48)]), oP 50 (.bin .add (.t 43) (.t 49)), oP 9 (.mv (.t 50))]) .skip)) c124_1))
def c124_3 : C := (.ops false [oP 62 (.bin .add (.t 19) (cI 1)), oP 19 (.mv (.t 62))])
def c124_4 : C := (.seq (.block 1 (.seq (.ops false [oP 21 (.mv (.t 19)), oP 22 (.iaS 7 (.t 17) (.t 19)), oP 23 (.ld 7 true (.t 22)), oP 11 (.new [(.v (.string ({ data := #[] }))), (.v (.int .i64 0)), (.v (.int .i64 0)), (.v (.int .i64 0)), (.v (.int .i64 0)), (.v (.int .i64 0)), .mt]), oP 10 (.mv (.t 21)), oS (.st 7 (.t 11) (.t 23))]) (.seq (.seq (.ops false [oP 24 (.fa 0 (.t 4)), oP 25 (.ld 1 false (.t 24)),
  oP 26 (.mv (.t 10)), oP 27 (.iaS 1 (.t 25) (.t 26)), oP 28 (.ld 1 false (.t 27)), oP 29 (.bin .eql (.t 28) (cI 0))]) (.cond (.t 29) (.exit 1) .skip)) c124_2))) c124_3)
def c124_5 : C := (.seq (.ops false [oP 20 (.bin .lss (.t 19) (.t 18))]) (.seq (.cond (.t 20) .skip (.exit 0)) c124_4))
def c124_6 : C := (.ops false [oP 92 (.bin .add (.t 66) (cI 1)), oP 66 (.mv (.t 92))])
def c124_7 : C := (.seq (.block 3 (.seq (.ops false [oP 68 (.mv (.t 66)), oP 69 (.iaS 3 (.t 64) (.t 66)), oP 70 (.ld 3 true (.t 69)), oP 15 (.new [(.v (.string ({ data := #[] }))), (.v (.int .i64 0)), (.v (.int .i64 0))]), oP 14 (.mv (.t 68)), oS (.st 3 (.t 15) (.t 70))]) (.seq (.ops false [oP 71 (.fa 1 (.t 15)), oP 72 (.ld 1 false (.t 71)), oP 73 (.mv (.t 2)), oP 74 (.bin .eql (.t 72) (.t 73))]) (.cond (.t 74)
  (.ops true [oP 75 (.mv (.t 8)), oP 76 (.fa 1 (.t 4)), oA 77 (.ld 1 false (.t 76)) [1], oP 78 (.mv (.t 14)), oA 79 (.iaS 1 (.t 77) (.t 78)) [1, 3, 2], oA 80 (.ld 1 false (.t 79)) [2, 3, 1, 4], oA 81 (.mnx true (cI 0) (.t 80)) [4, 1, 3, 2, 5], oA 82 (.bin .add (.t 75) (.t 81)) [5, 2, 3, 1, 4, 6, 0], oP 83 (.mv (.t 9)), oP 84 (.fa 1 (.t 4)), oA 85 (.ld 1 false (.t 84)) [9], oP 86 (.mv (.t 14)),
  oA 87 (.iaS 1 (.t 85) (.t 86)) [9, 11, 10], oA 88 (.ld 1 false (.t 87)) [10, 11, 9, 12], oA 89 (.neg (.t 88)) [12, 9, 11, 10, 13], oA 90 (.mnx true (cI 0) (.t 89)) [13, 10, 11, 9, 12, 14], oA 91 (.bin .add (.t 83) (.t 90)) [14, 12, 9, 11, 10, 13, 15, 8], oA 8 (.mv (.t 82)) [6, 5, 4, 3, 2, 1, 0, 7], oA 9 (.mv (.t 91)) [15, 14, 13, 12, 11, 10, 9, 8, 7, 6, 5, 4, 3, 2, 1, 0, 17, 16]]) .skip))))
  c124_6)
def c124_8 : C := (.seq (.ops false [oP 67 (.bin .lss (.t 66) (.t 65))]) (.seq (.cond (.t 67) .skip (.exit 2)) c124_7))
def c124_9 : C := (.seq (.ops false [oP 93 (.mv (.t 8)), oP 94 (.mv (.t 9)), oP 6 (.mv (.t 93)), oP 7 (.mv (.t 94))]) .ret)
def c124_10 : C := (.seq (.seq (.ops false [oP 63 (.fa 2 (.t 3)), oP 64 (.ld 1 false (.t 63)), oP 65 (.len (.t 64)), oP 66 (.mv (cI 0))]) (.block 2 (.loop c124_8))) c124_9)
def c124 : C := (.seq (.ops false [oP 3 (.box 6 (.t 0)), oP 4 (.box 3 (.t 1)), oP 6 (.mv (cI 0)), oP 7 (.mv (cI 0))]) (.seq (.ops false [oP 8 (.mv (cI 0)), oP 9 (.mv (cI 0))]) (.seq (.seq (.ops false [oP 16 (.fa 1 (.t 3)), oP 17 (.ld 1 false (.t 16)), oP 18 (.len (.t 17)), oP 19 (.mv (cI 0))]) (.block 0 (.loop c124_5))) c124_10)))
def r124 : List RV := [(.tmp 6), (.tmp 7)]
theorem c124_ok : ∃ code, Try.f124.body = some code ∧ compC Try.prog Try.f124.ntmps code = some (C.strip c124) := ⟨_, rfl, by kernel_rfl⟩
theorem r124_ok : compRes Try.prog Try.f124.results.toList = some r124 := by kernel_rfl
theorem f124_ok : fnOk Try.prog 124 = true := by kernel_rfl
end Go.Proofs.Ytkjibmfggeibjaa
