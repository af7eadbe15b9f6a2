
/- Plans out of a source: Negated, abs; what the loops keep. -/
import Derived.Test.YtkjibmfggeibjaaFw4
import Derived.Test.YtkjibmfggeibjaaPl1
import Derived.Test.YtkjibmfggeibjaaGen5
import Derived.Test.YtkjibmfggeibjaaCodePL
/- Plans out of a source: Negated, abs; what the loops keep. -/
namespace Go.Proofs.Ytkjibmfggeibjaa
open Go
set_option linter.unusedVariables false
set_option linter.unusedSimpArgs false
set_option maxRecDepth 100000

set_option maxHeartbeats 1000000 in
theorem kabs_c (x : Int) (h : -1000000 ≤ x ∧ x ≤ 1000000) (nn : Nm) : CallsA Try.prog 82 [di x] Hp.none nn (Pu (di (absI x)) Hp.none) := by
  obtain ⟨code, h1, h2⟩ := c82_ok
  refine callsA_of (T0_ok _) mixed (N := fun t => (0, t)) Try.func82 h1 h2 r82_ok [] false js_nil js_nil' (by simp [Try.f82]) ?_
  have w1 : IntKind.i64.wrap (0 - x) = -x := by rw [wrap_i (by omega)]; omega
  have e : (if x < -x then -x else x) = absI x := rfl
  simp (config := { maxSteps := 500000 }) only [↓vp, vv, implies_true, forall_const, undef, InI, ↓reduceIte, simprocAttr, c82, r82, w1, e, Pu]
def NegS (p : Pln) (r q : List Int) (g : Nat) : Hp := (((((Hp.none.put (0, 1002) ⟨q.length, 1, q.map iRow⟩).put (0, 1001) ⟨r.length, 1, r.map iRow⟩).put (0, 6) ⟨1, 1, p.pumps.map bRow⟩).put (0, 3) ⟨0, 3, [[.own (0, 1001) r.length 0 r.length, .own (0, 1002) q.length 0 q.length, .own (0, 6) 1 0 p.pumps.length]]⟩).put (0, 2) ⟨0, 3, [[.mt, .mt, .mt]]⟩).put (0, 1) ⟨0, 3, [plnD p]⟩
def SmI (R : List Int) : Prop := R.length ≤ 1000000 ∧ ∀ r ∈ R, -1000000000 ≤ r ∧ r ≤ 1000000000
theorem neg_take (R : List Int) (j : Nat) (h : j < R.length) : (R.take (j + 1)).map (- ·) = (R.take j).map (- ·) ++ [-R[j]] := by
  rw [← List.take_append_getElem h, List.map_append]; rfl
set_option maxHeartbeats 8000000 in
theorem negated_c (p : Pln) (h1 : SmI p.rates) (h2 : SmI p.ports) (h3 : p.pumps.length ≤ 1000000) (nn : Nm) : CallsA Try.prog 49 [p.enc] Hp.none nn (Pu (negP p).enc Hp.none) := by
  obtain ⟨code, k1, k2⟩ := c49_ok
  refine callsA_of (T0_ok _) mixed (N := fun t => (0, t)) Try.func49 k1 k2 r49_ok [] false js_nil js_nil' (by simp [Try.f49]) ?_
  obtain ⟨l1, b1⟩ := h1
  obtain ⟨l2, b2⟩ := h2
  have z1 : p.pumps.length * 1 ≤ 140737488355328 := by omega
  have z2 : p.pumps.length ≤ 4611686018427387904 := by omega
  have hb : ∀ b ∈ p.pumps, (bRow b).length = 1 := fun _ _ => rfl
  simp (config := { maxSteps := 500000 }) only [↓vp, vv, implies_true, forall_const, undef, InI, ↓reduceIte, simprocAttr, c49, Pln.enc, plnD, z1, z2, hb]
  refine ⟨hb, rng_loop p.rates.length (fun j => ⟨fr [(1, .ptr (0, 1) 0 0 0), (2, .ptr (0, 2) 0 0 0), (3, .ptr (0, 3) 0 0 0), (13, di p.rates.length), (14, di j)], NegS p ((p.rates.take j).map (- ·)) [] 0⟩) (fun _ => True) ((weak_ownC (0, 3) 0 3 [] [.mt, .own (0, 6) 1 0 p.pumps.length] (0, 1001) 1 (by simp (config := { maxSteps := 500000 }) only [↓vp, vv, implies_true, forall_const, undef, InI, ↓reduceIte, simprocAttr, ]) (by simp (config := { maxSteps := 500000 }) only [↓vp, vv, implies_true, forall_const, undef, InI, ↓reduceIte, simprocAttr, ])).trans ((weak_ownC (0, 3) 0 3 [.own (0, 1001) 0 0 0] [.own (0, 6) 1 0 p.pumps.length] (0, 1002) 1 (by simp (config := { maxSteps := 500000 }) only [↓vp, vv, implies_true, forall_const, undef, InI, ↓reduceIte, simprocAttr, ]) (by simp (config := { maxSteps := 500000 }) only [↓vp, vv, implies_true, forall_const, undef, InI, ↓reduceIte, simprocAttr, ])).trans (weak_eq [] [(0, 1), (0, 2), (0, 3), (0, 6), (0, 1001), (0, 1002)] [(1, .ptr (0, 1) 0 0 0), (2, .ptr (0, 2) 0 0 0), (3, .ptr (0, 3) 0 0 0), (13, di p.rates.length), (14, di 0)] (by simp (config := { maxSteps := 500000 }) only [↓vp, vv, implies_true, forall_const, undef, InI, ↓reduceIte, simprocAttr, coverS, NegS, plnD, bRow]) (by simp (config := { maxSteps := 500000 }) only [↓vp, vv, implies_true, forall_const, undef, InI, ↓reduceIte, simprocAttr, refsF, NegS, plnD, bRow]) (by simp (config := { maxSteps := 500000 }) only [↓vp, vv, implies_true, forall_const, undef, InI, ↓reduceIte, simprocAttr, NegS, plnD, bRow]) (by simp) (by simp (config := { maxSteps := 500000 }) only [↓vp, vv, implies_true, forall_const, undef, InI, ↓reduceIte, simprocAttr, NegS, plnD, bRow]; try rfl)))) trivial (fun j hj _ => ?_) (fun _ => ?_)⟩
  · have hj' : (j : Int) < p.rates.length := by omega
    have hn := idx_nn j
    have w1 := idx_next (j := j) (by omega)
    have hg := iRow_at p.rates j hj
    have ht := neg_take p.rates j hj
    have hr := b1 _ (List.getElem_mem hj)
    generalize p.rates[j] = r at hg ht hr
    have w2 : IntKind.i64.wrap (0 - r) = -r := by rw [wrap_i (by omega)]; omega
    have hl : (p.rates.take j).length = j := by rw [List.length_take]; omega
    have hl3 : (p.rates.take (j + 1)).length = j + 1 := by rw [List.length_take]; omega
    have y1 : (j + 1) * 8 ≤ 140737488355328 := by omega
    have y2 : j + 1 ≤ 4611686018427387904 := by omega
    simp (config := { maxSteps := 500000 }) only [↓vp, vv, implies_true, forall_const, undef, InI, ↓reduceIte, simprocAttr, c49, r49, c49_1, c49_2, c49_3, c49_4, c49_5, c49_6, NegS, plnD, hj', hn, Int.toNat_natCast, hg, w1, w2, hl, y1, y2]
    exact rng_next hj (weak_eq [] [(0, 1), (0, 2), (0, 3), (0, 6), (0, 1001), (0, 1002)] [(1, .ptr (0, 1) 0 0 0), (2, .ptr (0, 2) 0 0 0), (3, .ptr (0, 3) 0 0 0), (13, di p.rates.length), (14, di (j + 1 : Nat))] (by simp (config := { maxSteps := 500000 }) only [↓vp, vv, implies_true, forall_const, undef, InI, ↓reduceIte, simprocAttr, coverS, NegS, plnD, iRow, bRow, w1, ht, hl, hl3, List.map_append]) (by simp (config := { maxSteps := 500000 }) only [↓vp, vv, implies_true, forall_const, undef, InI, ↓reduceIte, simprocAttr, refsF, NegS, plnD, iRow, bRow, w1, ht, hl, hl3, List.map_append]) (by simp (config := { maxSteps := 500000 }) only [↓vp, vv, implies_true, forall_const, undef, InI, ↓reduceIte, simprocAttr, NegS, plnD, iRow, bRow, w1, ht, hl, hl3, List.map_append]) (by simp) (by simp (config := { maxSteps := 500000 }) only [↓vp, vv, implies_true, forall_const, undef, InI, ↓reduceIte, simprocAttr, NegS, plnD, iRow, bRow, w1, ht, hl, hl3, List.map_append]; try rfl)) trivial
  · simp only [List.take_length]
    have hl1 : (p.rates.map (- ·)).length = p.rates.length := List.length_map _
    generalize hR : p.rates.map (- ·) = R at hl1
    simp (config := { maxSteps := 500000 }) only [↓vp, vv, implies_true, forall_const, undef, InI, ↓reduceIte, simprocAttr, c49, r49, c49_1, c49_2, c49_3, c49_4, c49_5, c49_6, NegS, plnD, Int.lt_irrefl]
    refine rng_loop p.ports.length (fun j => ⟨fr [(1, .ptr (0, 1) 0 0 0), (2, .ptr (0, 2) 0 0 0), (3, .ptr (0, 3) 0 0 0), (31, di p.ports.length), (32, di j)], NegS p R ((p.ports.take j).map (- ·)) 0⟩) (fun _ => True) (weak_eq [] [(0, 1), (0, 2), (0, 3), (0, 6), (0, 1001), (0, 1002)] [(1, .ptr (0, 1) 0 0 0), (2, .ptr (0, 2) 0 0 0), (3, .ptr (0, 3) 0 0 0), (31, di p.ports.length), (32, di 0)] (by simp (config := { maxSteps := 500000 }) only [↓vp, vv, implies_true, forall_const, undef, InI, ↓reduceIte, simprocAttr, coverS, NegS, plnD, iRow, bRow]) (by simp (config := { maxSteps := 500000 }) only [↓vp, vv, implies_true, forall_const, undef, InI, ↓reduceIte, simprocAttr, refsF, NegS, plnD, iRow, bRow]) (by simp (config := { maxSteps := 500000 }) only [↓vp, vv, implies_true, forall_const, undef, InI, ↓reduceIte, simprocAttr, NegS, plnD, iRow, bRow]) (by simp) (by simp (config := { maxSteps := 500000 }) only [↓vp, vv, implies_true, forall_const, undef, InI, ↓reduceIte, simprocAttr, NegS, plnD, iRow, bRow]; try rfl)) trivial (fun j hj _ => ?_) (fun _ => ?_)
    · have hj' : (j : Int) < p.ports.length := by omega
      have hn := idx_nn j
      have w1 := idx_next (j := j) (by omega)
      have hg := iRow_at p.ports j hj
      have ht := neg_take p.ports j hj
      have hr := b2 _ (List.getElem_mem hj)
      generalize p.ports[j] = r at hg ht hr
      have w2 : IntKind.i64.wrap (0 - r) = -r := by rw [wrap_i (by omega)]; omega
      have hl : (p.ports.take j).length = j := by rw [List.length_take]; omega
      have hl3 : (p.ports.take (j + 1)).length = j + 1 := by rw [List.length_take]; omega
      have y1 : (j + 1) * 8 ≤ 140737488355328 := by omega
      have y2 : j + 1 ≤ 4611686018427387904 := by omega
      simp (config := { maxSteps := 500000 }) only [↓vp, vv, implies_true, forall_const, undef, InI, ↓reduceIte, simprocAttr, c49, r49, c49_1, c49_2, c49_3, c49_4, c49_5, c49_6, NegS, plnD, hj', hn, Int.toNat_natCast, hg, w1, w2, hl, y1, y2]
      exact rng_next hj (weak_eq [] [(0, 1), (0, 2), (0, 3), (0, 6), (0, 1001), (0, 1002)] [(1, .ptr (0, 1) 0 0 0), (2, .ptr (0, 2) 0 0 0), (3, .ptr (0, 3) 0 0 0), (31, di p.ports.length), (32, di (j + 1 : Nat))] (by simp (config := { maxSteps := 500000 }) only [↓vp, vv, implies_true, forall_const, undef, InI, ↓reduceIte, simprocAttr, coverS, NegS, plnD, iRow, bRow, w1, ht, hl, hl3, List.map_append]) (by simp (config := { maxSteps := 500000 }) only [↓vp, vv, implies_true, forall_const, undef, InI, ↓reduceIte, simprocAttr, refsF, NegS, plnD, iRow, bRow, w1, ht, hl, hl3, List.map_append]) (by simp (config := { maxSteps := 500000 }) only [↓vp, vv, implies_true, forall_const, undef, InI, ↓reduceIte, simprocAttr, NegS, plnD, iRow, bRow, w1, ht, hl, hl3, List.map_append]) (by simp) (by simp (config := { maxSteps := 500000 }) only [↓vp, vv, implies_true, forall_const, undef, InI, ↓reduceIte, simprocAttr, NegS, plnD, iRow, bRow, w1, ht, hl, hl3, List.map_append]; try rfl)) trivial
    · simp only [List.take_length]
      have e : negP p = ⟨R, p.ports.map (- ·), p.pumps⟩ := by unfold negP; rw [hR]
      rw [e]
      generalize p.ports.map (- ·) = Q
      simp (config := { maxSteps := 500000 }) only [↓vp, vv, implies_true, forall_const, undef, InI, ↓reduceIte, simprocAttr, c49, r49, c49_1, c49_2, c49_3, c49_4, c49_5, c49_6, NegS, plnD, Int.lt_irrefl, Pu]
      exact ⟨fun _ _ d hd => by rw [List.mem_singleton.1 hd]; rfl, fun _ _ d hd => by rw [List.mem_singleton.1 hd]; rfl, fun _ _ d hd => by rw [List.mem_singleton.1 hd]; rfl⟩
end Go.Proofs.Ytkjibmfggeibjaa
/- Plans out of a source: the inner loops. -/
namespace Go.Proofs.Ytkjibmfggeibjaa
open Go
set_option linter.unusedVariables false
set_option linter.unusedSimpArgs false
set_option maxRecDepth 100000

def selAbs : List D → Option (Prop × D)
  | [.v (.int .i64 x)] => some (-1000000 ≤ x ∧ x ≤ 1000000, di (absI x))
  | _ => Option.none
def selNeg : List D → Option (Prop × D)
  | [.agg r] => match plnOf1 r with
    | some p => some (SmI p.rates ∧ SmI p.ports ∧ p.pumps.length ≤ 1000000, (negP p).enc)
    | Option.none => Option.none
  | _ => Option.none
def TPl : Tbl := tc 82 (rowPu selAbs) (tc 49 (rowPu selNeg) T2)
theorem TPl_ok : TblOk Try.prog TPl := by
  refine tc_pu f82_ok (fun args pre d h hp nn => ?_) (tc_pu f49_ok (fun args pre d h hp nn => ?_) T2_ok)
  · unfold selAbs at h
    split at h <;> cases h
    exact kabs_c _ hp nn
  · unfold selNeg at h
    split at h
    · split at h
      · rename_i e
        cases h
        rw [plnOf1_eq e]
        exact negated_c _ hp.1 hp.2.1 hp.2.2 nn
      · cases h
    · cases h
def PH (i : Nm) (n : Net) (g : Nat) (R Q : List Int) (U : List Bool) (L : List (List D)) (at' : Int) (B : Hp) : Hp :=
  ((((((B.put (i.1 + 1, 1005) ⟨g, 1, U.map bRow⟩).put (i.1 + 1, 29) ⟨0, 1, Q.map iRow⟩).put (i.1 + 1, 25) ⟨0, 1, R.map iRow⟩).put (i.1 + 1, 5) ⟨0, 3, [[.own (i.1 + 1, 25) 0 0 R.length, .own (i.1 + 1, 29) 0 0 Q.length, .own (i.1 + 1, 1005) g 0 U.length]]⟩).put (i.1 + 1, 4) ⟨0, 3, [[.mt, .mt, .mt]]⟩).put (i.1 + 1, 3) ⟨0, 6, [netD n]⟩).put i (sE L at')
def BW (i : Nm) (gw : Nat) (W : List Nat) : Hp := Hp.none.put (i.1 + 1, 1012) ⟨gw, 1, W.map nRow⟩
def BO (i : Nm) (gw : Nat) (W : List Nat) (go : Nat) (O : List Nat) : Hp := (Hp.none.put (i.1 + 1, 1016) ⟨go, 1, O.map nRow⟩).put (i.1 + 1, 1012) ⟨gw, 1, W.map nRow⟩
def PF (i : Nm) (tu : Bool) (c : Int) (l : List (Nat × D)) : List (Nat × D) := (0, .ptr i 0 0 0) :: (3, .ptr (i.1 + 1, 3) 0 0 0) :: (4, .ptr (i.1 + 1, 4) 0 0 0) :: (5, .ptr (i.1 + 1, 5) 0 0 0) :: (7, db tu) :: (8, di c) :: l
structure PFk (i : Nm) (tu : Bool) (c : Int) (F : Fr) : Prop where
  f0 : F 0 = .ptr i 0 0 0
  f3 : F 3 = .ptr (i.1 + 1, 3) 0 0 0
  f4 : F 4 = .ptr (i.1 + 1, 4) 0 0 0
  f5 : F 5 = .ptr (i.1 + 1, 5) 0 0 0
  f7 : F 7 = db tu
  f8 : F 8 = di c
structure PFw (a at0 rate : Int) (i : Nm) (gw : Nat) (W : List Nat) (e : Int) (F : Fr) : Prop where
  f9 : F 9 = di a
  f10 : F 10 = di at0
  f11 : F 11 = di rate
  f12 : F 12 = .own (i.1 + 1, 1012) gw 0 W.length
  f13 : F 13 = di e
/-- A port at which a way may end. -/
def EndOk (n : Net) (Q : List Int) (a rate at' e : Int) : Prop := e ≠ a ∧ ∃ (k : Nat) (y : Port) (q : Int), e = k ∧ n.ports[k]? = some y ∧ Q[k]? = some q ∧ y.node = at' ∧ q ≤ 0 ∧ -1000 ≤ q - rate
set_option maxHeartbeats 16000000 in
theorem pl4 (i : Nm) (L : List (List D)) (n : Net) (g : Nat) (R Q : List Int) (U : List Bool) (tu : Bool) (c a at0 rate : Int) (gw : Nat) (W : List Nat) (hql : n.ports.length ≤ 1000000) (hQl : Q.length = n.ports.length) (hQb : ∀ r ∈ Q, -1000 ≤ r ∧ r ≤ 1000) (hr : 1 ≤ rate ∧ rate ≤ 300)
    (s : St) (Qx : Ex → St → Prop) (at1 : Int) (o1 : SrcOk L at1) (hw : Weak [i] s ⟨fr (PF i tu c [(9, di a), (10, di at0), (11, di rate), (12, .own (i.1 + 1, 1012) gw 0 W.length), (13, di (-1)), (90, .sl (n.ports.map Port.row)), (91, di n.ports.length), (92, di 0)]), PH i n g R Q U L at1 (BW i gw W)⟩)
    (hX : ∀ F at2 e, SrcOk L at2 → (e = -1 ∨ EndOk n Q a rate at0 e) → PFk i tu c F → PFw a at0 rate i gw W e F → Qx (.exit 6) ⟨F, PH i n g R Q U L at2 (BW i gw W)⟩) :
    vc TPl (fun t => (i.1 + 1, t)) [i] (.loop c20_5) Qx s := by
  rw [vc_loop]
  refine ⟨fun m s => ∃ at' e j, j + m = n.ports.length ∧ SrcOk L at' ∧ (e = -1 ∨ EndOk n Q a rate at0 e) ∧ s = ⟨fr (PF i tu c [(9, di a), (10, di at0), (11, di rate), (12, .own (i.1 + 1, 1012) gw 0 W.length), (13, di e), (90, .sl (n.ports.map Port.row)), (91, di n.ports.length), (92, di (j : Nat))]), PH i n g R Q U L at' (BW i gw W)⟩, ⟨n.ports.length, _, hw, at1, -1, 0, by omega, o1, .inl rfl, rfl⟩, ?_⟩
  rintro m s ⟨at2, e, j, hm, o2, he, rfl⟩
  by_cases hj : j < n.ports.length
  · have hj' : (j : Int) < n.ports.length := by omega
    have hjn := idx_nn j
    have w1 := idx_next (j := j) (by omega)
    have hjq : j < Q.length := by omega
    have hjq' : (j : Int) < Q.length := by omega
    have hg := getD_map Port.row n.ports j hj
    have hg2 := iRow_at Q j hjq
    have hx : n.ports[j]? = some n.ports[j] := List.getElem?_eq_getElem hj
    have hy : Q[j]? = some Q[j] := List.getElem?_eq_getElem hjq
    have hb := hQb _ (List.getElem_mem hjq)
    generalize n.ports[j] = x at hg hx
    generalize Q[j] = q at hg2 hy hb
    have w2 : IntKind.i64.wrap (q - rate) = q - rate := wrap_i (by omega)
    have nx : ∀ (at3 e' : Int) (F : Fr) (H : Hp), SrcOk L at3 → (e' = -1 ∨ EndOk n Q a rate at0 e') → PFk i tu c F → PFw a at0 rate i gw W e' F → F 90 = .sl (n.ports.map Port.row) → F 91 = di n.ports.length → F 92 = di (j + 1 : Nat) →
        H i = some (sE L at3) → H (i.1 + 1, 3) = some ⟨0, 6, [netD n]⟩ → H (i.1 + 1, 4) = some ⟨0, 3, [[.mt, .mt, .mt]]⟩ → H (i.1 + 1, 5) = some ⟨0, 3, [[.own (i.1 + 1, 25) 0 0 R.length, .own (i.1 + 1, 29) 0 0 Q.length, .own (i.1 + 1, 1005) g 0 U.length]]⟩ → H (i.1 + 1, 25) = some ⟨0, 1, R.map iRow⟩ → H (i.1 + 1, 29) = some ⟨0, 1, Q.map iRow⟩ → H (i.1 + 1, 1005) = some ⟨g, 1, U.map bRow⟩ → H (i.1 + 1, 1012) = some ⟨gw, 1, W.map nRow⟩ →
        ∃ k' s', k' < m ∧ Weak [i] ⟨F, H⟩ s' ∧ ∃ at' e j, j + k' = n.ports.length ∧ SrcOk L at' ∧ (e = -1 ∨ EndOk n Q a rate at0 e) ∧ s' = ⟨fr (PF i tu c [(9, di a), (10, di at0), (11, di rate), (12, .own (i.1 + 1, 1012) gw 0 W.length), (13, di e), (90, .sl (n.ports.map Port.row)), (91, di n.ports.length), (92, di (j : Nat))]), PH i n g R Q U L at' (BW i gw W)⟩ := by
      rintro at3 e' F H o3 he' ⟨f0, f3, f4, f5, f7, f8⟩ ⟨f9, f10, f11, f12, f13⟩ f90 f91 f92 h0 h3 h4 h5 h25 h29 h105 h112
      exact ⟨m - 1, _, by omega, (weak_eq [] [i, (i.1 + 1, 3), (i.1 + 1, 4), (i.1 + 1, 5), (i.1 + 1, 25), (i.1 + 1, 29), (i.1 + 1, 1005), (i.1 + 1, 1012)] (PF i tu c [(9, di a), (10, di at0), (11, di rate), (12, .own (i.1 + 1, 1012) gw 0 W.length), (13, di e'), (90, .sl (n.ports.map Port.row)), (91, di n.ports.length), (92, di (j + 1 : Nat))]) (by simp (config := { maxSteps := 500000 }) only [↓vp, vv, implies_true, forall_const, undef, InI, ↓reduceIte, simprocAttr, coverS, PF, PH, BW, netD, iRow, bRow, nRow, f0, f3, f4, f5, f7, f8, f9, f10, f11, f12, f13, f90, f91, f92, h0, h3, h4, h5, h25, h29, h105, h112]) (by simp (config := { maxSteps := 500000 }) only [↓vp, vv, implies_true, forall_const, undef, InI, ↓reduceIte, simprocAttr, refsF, PF, PH, BW, netD, iRow, bRow, nRow, f0, f3, f4, f5, f7, f8, f9, f10, f11, f12, f13, f90, f91, f92, h0, h3, h4, h5, h25, h29, h105, h112]) (by simp (config := { maxSteps := 500000 }) only [↓vp, vv, implies_true, forall_const, undef, InI, ↓reduceIte, simprocAttr, PF, PH, BW, netD, iRow, bRow, nRow, f0, f3, f4, f5, f7, f8, f9, f10, f11, f12, f13, f90, f91, f92, h0, h3, h4, h5, h25, h29, h105, h112]) (by simp) (by simp (config := { maxSteps := 500000 }) only [↓vp, vv, implies_true, forall_const, undef, InI, ↓reduceIte, simprocAttr, PF, PH, BW, netD, iRow, bRow, nRow, f0, f3, f4, f5, f7, f8, f9, f10, f11, f12, f13, f90, f91, f92, h0, h3, h4, h5, h25, h29, h105, h112]; try rfl)), at3, e', j + 1, by omega, o3, he', rfl⟩
    cases c1 : (x.node == at0) with
    | false =>
      simp (config := { maxSteps := 500000 }) only [↓vp, vv, implies_true, forall_const, undef, InI, ↓reduceIte, simprocAttr, c20_5, c20_4, c20_3, TPl, T2, T1, selI, PF, PH, BW, netD, hj', hjn, Int.toNat_natCast, hg, Port.row, c1, w1]
      refine nx at2 e _ _ o2 he ⟨?_, ?_, ?_, ?_, ?_, ?_⟩ ⟨?_, ?_, ?_, ?_, ?_⟩ ?_ ?_ ?_ ?_ ?_ ?_ ?_ ?_ ?_ ?_ ?_ <;> simp (config := { maxSteps := 500000 }) only [↓vp, vv, implies_true, forall_const, undef, InI, ↓reduceIte, simprocAttr, netD, w1]
    | true =>
    cases c2 : ((j : Int) != a) with
    | false =>
      simp (config := { maxSteps := 500000 }) only [↓vp, vv, implies_true, forall_const, undef, InI, ↓reduceIte, simprocAttr, c20_5, c20_4, c20_3, TPl, T2, T1, selI, PF, PH, BW, netD, hj', hjn, Int.toNat_natCast, hg, hg2, Port.row, c1, c2, w1]
      refine nx at2 e _ _ o2 he ⟨?_, ?_, ?_, ?_, ?_, ?_⟩ ⟨?_, ?_, ?_, ?_, ?_⟩ ?_ ?_ ?_ ?_ ?_ ?_ ?_ ?_ ?_ ?_ ?_ <;> simp (config := { maxSteps := 500000 }) only [↓vp, vv, implies_true, forall_const, undef, InI, ↓reduceIte, simprocAttr, netD, w1]
    | true =>
    cases c3 : decide (q ≤ 0) with
    | false =>
      simp (config := { maxSteps := 500000 }) only [↓vp, vv, implies_true, forall_const, undef, InI, ↓reduceIte, simprocAttr, c20_5, c20_4, c20_3, TPl, T2, T1, selI, PF, PH, BW, netD, hj', hjn, Int.toNat_natCast, hg, hg2, Port.row, c1, c2, hjq, hjq', c3, w1]
      refine nx at2 e _ _ o2 he ⟨?_, ?_, ?_, ?_, ?_, ?_⟩ ⟨?_, ?_, ?_, ?_, ?_⟩ ?_ ?_ ?_ ?_ ?_ ?_ ?_ ?_ ?_ ?_ ?_ <;> simp (config := { maxSteps := 500000 }) only [↓vp, vv, implies_true, forall_const, undef, InI, ↓reduceIte, simprocAttr, netD, w1]
    | true =>
    cases c4 : decide (-1000 ≤ q - rate) with
    | false =>
      simp (config := { maxSteps := 500000 }) only [↓vp, vv, implies_true, forall_const, undef, InI, ↓reduceIte, simprocAttr, c20_5, c20_4, c20_3, TPl, T2, T1, selI, PF, PH, BW, netD, hj', hjn, Int.toNat_natCast, hg, hg2, Port.row, c1, c2, hjq, hjq', c3, w2, c4, w1]
      refine nx at2 e _ _ o2 he ⟨?_, ?_, ?_, ?_, ?_, ?_⟩ ⟨?_, ?_, ?_, ?_, ?_⟩ ?_ ?_ ?_ ?_ ?_ ?_ ?_ ?_ ?_ ?_ ?_ <;> simp (config := { maxSteps := 500000 }) only [↓vp, vv, implies_true, forall_const, undef, InI, ↓reduceIte, simprocAttr, netD, w1]
    | true =>
    cases c5 : decide ((0 : Int) < W.length) with
    | false =>
      simp (config := { maxSteps := 500000 }) only [↓vp, vv, implies_true, forall_const, undef, InI, ↓reduceIte, simprocAttr, c20_5, c20_4, c20_3, TPl, T2, T1, selI, PF, PH, BW, netD, hj', hjn, Int.toNat_natCast, hg, hg2, Port.row, c1, c2, hjq, hjq', c3, w2, c4, c5, w1]
      refine nx at2 e _ _ o2 he ⟨?_, ?_, ?_, ?_, ?_, ?_⟩ ⟨?_, ?_, ?_, ?_, ?_⟩ ?_ ?_ ?_ ?_ ?_ ?_ ?_ ?_ ?_ ?_ ?_ <;> simp (config := { maxSteps := 500000 }) only [↓vp, vv, implies_true, forall_const, undef, InI, ↓reduceIte, simprocAttr, netD, w1]
    | true =>
      simp (config := { maxSteps := 500000 }) only [↓vp, vv, implies_true, forall_const, undef, InI, ↓reduceIte, simprocAttr, c20_5, c20_4, c20_3, TPl, T2, T1, selI, PF, PH, BW, netD, hj', hjn, Int.toNat_natCast, hg, hg2, Port.row, c1, c2, hjq, hjq', c3, w2, c4, c5, o2, w1]
      rintro ⟨at3, o3⟩ v hv
      have he2 : EndOk n Q a rate at0 (j : Int) := ⟨by simpa using c2, j, x, q, rfl, hx, hy, by simpa using c1, by simpa using c3, by simpa using c4⟩
      cases c6 : (v == (0 : Int)) with
      | false =>
        simp (config := { maxSteps := 500000 }) only [↓vp, vv, implies_true, forall_const, undef, InI, ↓reduceIte, simprocAttr, c6, w1]
        refine nx at3 e _ _ o3 he ⟨?_, ?_, ?_, ?_, ?_, ?_⟩ ⟨?_, ?_, ?_, ?_, ?_⟩ ?_ ?_ ?_ ?_ ?_ ?_ ?_ ?_ ?_ ?_ ?_ <;> simp (config := { maxSteps := 500000 }) only [↓vp, vv, implies_true, forall_const, undef, InI, ↓reduceIte, simprocAttr, netD, w1]
      | true =>
        simp (config := { maxSteps := 500000 }) only [↓vp, vv, implies_true, forall_const, undef, InI, ↓reduceIte, simprocAttr, c6, w1]
        refine nx at3 j _ _ o3 (.inr he2) ⟨?_, ?_, ?_, ?_, ?_, ?_⟩ ⟨?_, ?_, ?_, ?_, ?_⟩ ?_ ?_ ?_ ?_ ?_ ?_ ?_ ?_ ?_ ?_ ?_ <;> simp (config := { maxSteps := 500000 }) only [↓vp, vv, implies_true, forall_const, undef, InI, ↓reduceIte, simprocAttr, netD, w1]
  · have hj2 : j = n.ports.length := by omega
    have hj' : ¬ (j : Int) < n.ports.length := by omega
    simp (config := { maxSteps := 500000 }) only [↓vp, vv, implies_true, forall_const, undef, InI, ↓reduceIte, simprocAttr, c20_5, PF, hj']
    refine hX _ at2 e o2 he ⟨?_, ?_, ?_, ?_, ?_, ?_⟩ ⟨?_, ?_, ?_, ?_, ?_⟩ <;> simp (config := { maxSteps := 500000 }) only [↓vp, vv, implies_true, forall_const, undef, InI, ↓reduceIte, simprocAttr, ]
end Go.Proofs.Ytkjibmfggeibjaa
/- Plans out of a source: the segments that lead on; the way that is laid. -/
namespace Go.Proofs.Ytkjibmfggeibjaa
open Go
set_option linter.unusedVariables false
set_option linter.unusedSimpArgs false
set_option maxRecDepth 100000

/-- A segment that leads on. -/
def OutOk (n : Net) (R : List Int) (rate at' : Int) (k : Nat) : Prop := ∃ s r, n.segs[k]? = some s ∧ R[k]? = some r ∧ (s.fr = at' ∨ s.to = at') ∧ at' < s.fr + s.to - at' ∧ absI r + rate ≤ minC s.cap
theorem most_min (s : Seg) : most s = minC s.cap := by unfold most minC; split <;> split <;> omega
set_option maxHeartbeats 16000000 in
theorem pl5 (i : Nm) (L : List (List D)) (n : Net) (hv : NetV n) (g : Nat) (R Q : List Int) (U : List Bool) (tu : Bool) (c a at0 rate : Int) (gw : Nat) (W : List Nat) (hRl : R.length = n.segs.length) (hRb : ∀ r ∈ R, -1000 ≤ r ∧ r ≤ 1000) (hr : 1 ≤ rate ∧ rate ≤ 300) (h0 : 0 ≤ at0 ∧ at0 < 24)
    (s : St) (Qx : Ex → St → Prop) (at1 : Int) (hw : Weak [i] s ⟨fr (PF i tu c [(9, di a), (10, di at0), (11, di rate), (12, .own (i.1 + 1, 1012) gw 0 W.length), (13, di (-1)), (16, .own (i.1 + 1, 1016) 0 0 0), (139, .sl (n.segs.map Seg.row)), (140, di n.segs.length), (141, di 0)]), PH i n g R Q U L at1 (BO i gw W 0 [])⟩)
    (hX : ∀ F O go, (∀ k ∈ O, OutOk n R rate at0 k) → O.length ≤ 32 → PFk i tu c F → PFw a at0 rate i gw W (-1) F → F 16 = .own (i.1 + 1, 1016) go 0 O.length → Qx (.exit 8) ⟨F, PH i n g R Q U L at1 (BO i gw W go O)⟩) :
    vc TPl (fun t => (i.1 + 1, t)) [i] (.loop c20_8) Qx s := by
  have hsl := hv.sl
  rw [vc_loop]
  refine ⟨fun m s => ∃ O go j, j + m = n.segs.length ∧ O.length ≤ j ∧ (∀ k ∈ O, OutOk n R rate at0 k) ∧ s = ⟨fr (PF i tu c [(9, di a), (10, di at0), (11, di rate), (12, .own (i.1 + 1, 1012) gw 0 W.length), (13, di (-1)), (16, .own (i.1 + 1, 1016) go 0 O.length), (139, .sl (n.segs.map Seg.row)), (140, di n.segs.length), (141, di (j : Nat))]), PH i n g R Q U L at1 (BO i gw W go O)⟩, ⟨n.segs.length, _, hw, [], 0, 0, by omega, Nat.le_refl _, fun k hk => (by cases hk), rfl⟩, ?_⟩
  rintro m s ⟨O, go, j, hm, hO, hOk, rfl⟩
  by_cases hj : j < n.segs.length
  · have hj' : (j : Int) < n.segs.length := by omega
    have hjn := idx_nn j
    have w1 := idx_next (j := j) (by omega)
    have hjq : j < R.length := by omega
    have hjq' : (j : Int) < R.length := by omega
    have hg := getD_map Seg.row n.segs j hj
    have hg2 := iRow_at R j hjq
    have hx : n.segs[j]? = some n.segs[j] := List.getElem?_eq_getElem hj
    have hy : R[j]? = some R[j] := List.getElem?_eq_getElem hjq
    have hb := hRb _ (List.getElem_mem hjq)
    have hse := hv.se _ (List.getElem_mem hj)
    have hnl := hv.nl
    generalize n.segs[j] = x at hg hx hse
    generalize R[j] = r at hg2 hy hb
    have nx : ∀ (O' : List Nat) (go' : Nat) (F : Fr) (H : Hp), O'.length ≤ j + 1 → (∀ k ∈ O', OutOk n R rate at0 k) → PFk i tu c F → PFw a at0 rate i gw W (-1) F → F 16 = .own (i.1 + 1, 1016) go' 0 O'.length → F 139 = .sl (n.segs.map Seg.row) → F 140 = di n.segs.length → F 141 = di (j + 1 : Nat) →
        H i = some (sE L at1) → H (i.1 + 1, 3) = some ⟨0, 6, [netD n]⟩ → H (i.1 + 1, 4) = some ⟨0, 3, [[.mt, .mt, .mt]]⟩ → H (i.1 + 1, 5) = some ⟨0, 3, [[.own (i.1 + 1, 25) 0 0 R.length, .own (i.1 + 1, 29) 0 0 Q.length, .own (i.1 + 1, 1005) g 0 U.length]]⟩ → H (i.1 + 1, 25) = some ⟨0, 1, R.map iRow⟩ → H (i.1 + 1, 29) = some ⟨0, 1, Q.map iRow⟩ → H (i.1 + 1, 1005) = some ⟨g, 1, U.map bRow⟩ → H (i.1 + 1, 1012) = some ⟨gw, 1, W.map nRow⟩ → H (i.1 + 1, 1016) = some ⟨go', 1, O'.map nRow⟩ →
        ∃ k' s', k' < m ∧ Weak [i] ⟨F, H⟩ s' ∧ ∃ O go j, j + k' = n.segs.length ∧ O.length ≤ j ∧ (∀ k ∈ O, OutOk n R rate at0 k) ∧ s' = ⟨fr (PF i tu c [(9, di a), (10, di at0), (11, di rate), (12, .own (i.1 + 1, 1012) gw 0 W.length), (13, di (-1)), (16, .own (i.1 + 1, 1016) go 0 O.length), (139, .sl (n.segs.map Seg.row)), (140, di n.segs.length), (141, di (j : Nat))]), PH i n g R Q U L at1 (BO i gw W go O)⟩ := by
      rintro O' go' F H hO' hOk' ⟨f0, f3, f4, f5, f7, f8⟩ ⟨f9, f10, f11, f12, f13⟩ f16 f90 f91 f92 h0 h3 h4 h5 h25 h29 h105 h112 h116
      exact ⟨m - 1, _, by omega, (weak_eq [] [i, (i.1 + 1, 3), (i.1 + 1, 4), (i.1 + 1, 5), (i.1 + 1, 25), (i.1 + 1, 29), (i.1 + 1, 1005), (i.1 + 1, 1012), (i.1 + 1, 1016)] (PF i tu c [(9, di a), (10, di at0), (11, di rate), (12, .own (i.1 + 1, 1012) gw 0 W.length), (13, di (-1)), (16, .own (i.1 + 1, 1016) go' 0 O'.length), (139, .sl (n.segs.map Seg.row)), (140, di n.segs.length), (141, di (j + 1 : Nat))]) (by simp (config := { maxSteps := 500000 }) only [↓vp, vv, implies_true, forall_const, undef, InI, ↓reduceIte, simprocAttr, coverS, PF, PH, BO, netD, iRow, bRow, nRow, f0, f3, f4, f5, f7, f8, f9, f10, f11, f12, f13, f16, f90, f91, f92, h0, h3, h4, h5, h25, h29, h105, h112, h116]) (by simp (config := { maxSteps := 500000 }) only [↓vp, vv, implies_true, forall_const, undef, InI, ↓reduceIte, simprocAttr, refsF, PF, PH, BO, netD, iRow, bRow, nRow, f0, f3, f4, f5, f7, f8, f9, f10, f11, f12, f13, f16, f90, f91, f92, h0, h3, h4, h5, h25, h29, h105, h112, h116]) (by simp (config := { maxSteps := 500000 }) only [↓vp, vv, implies_true, forall_const, undef, InI, ↓reduceIte, simprocAttr, PF, PH, BO, netD, iRow, bRow, nRow, f0, f3, f4, f5, f7, f8, f9, f10, f11, f12, f13, f16, f90, f91, f92, h0, h3, h4, h5, h25, h29, h105, h112, h116]) (by simp) (by simp (config := { maxSteps := 500000 }) only [↓vp, vv, implies_true, forall_const, undef, InI, ↓reduceIte, simprocAttr, PF, PH, BO, netD, iRow, bRow, nRow, f0, f3, f4, f5, f7, f8, f9, f10, f11, f12, f13, f16, f90, f91, f92, h0, h3, h4, h5, h25, h29, h105, h112, h116]; try rfl)), O', go', j + 1, by omega, hO', hOk', rfl⟩
    have w2 : IntKind.i64.wrap (x.fr + x.to) = x.fr + x.to := wrap_i (by omega)
    have w3 : IntKind.i64.wrap (x.fr + x.to - at0) = x.fr + x.to - at0 := wrap_i (by omega)
    have ha : 0 ≤ absI r ∧ absI r ≤ 1000 := by unfold absI; split <;> omega
    have w4 : IntKind.i64.wrap (absI r + rate) = absI r + rate := wrap_i (by omega)
    have hm2 : (if x.cap < 1000 then x.cap else 1000) = minC x.cap := most_min x
    have hab : -1000000 ≤ r ∧ r ≤ 1000000 := by omega
    have key : ∀ (b1 b2 : Bool), (x.fr == at0) = b1 → (x.to == at0) = b2 → (b1 || b2) = false → vc TPl (fun t => (i.1 + 1, t)) [i] c20_8 (loopQ [i] (fun m s => ∃ O go j, j + m = n.segs.length ∧ O.length ≤ j ∧ (∀ k ∈ O, OutOk n R rate at0 k) ∧ s = ⟨fr (PF i tu c [(9, di a), (10, di at0), (11, di rate), (12, .own (i.1 + 1, 1012) gw 0 W.length), (13, di (-1)), (16, .own (i.1 + 1, 1016) go 0 O.length), (139, .sl (n.segs.map Seg.row)), (140, di n.segs.length), (141, di (j : Nat))]), PH i n g R Q U L at1 (BO i gw W go O)⟩) m Qx) ⟨fr (PF i tu c [(9, di a), (10, di at0), (11, di rate), (12, .own (i.1 + 1, 1012) gw 0 W.length), (13, di (-1)), (16, .own (i.1 + 1, 1016) go 0 O.length), (139, .sl (n.segs.map Seg.row)), (140, di n.segs.length), (141, di (j : Nat))]), PH i n g R Q U L at1 (BO i gw W go O)⟩ := by
      intro b1 b2 c1 c2 hbb
      cases b1 with
      | true => cases hbb
      | false =>
        cases b2 with
        | true => cases hbb
        | false =>
          simp (config := { maxSteps := 500000 }) only [↓vp, vv, implies_true, forall_const, undef, InI, ↓reduceIte, simprocAttr, c20_8, c20_7, c20_6, TPl, PF, PH, BO, netD, hj', hjn, Int.toNat_natCast, hg, Seg.row, c1, c2, w1]
          refine nx O go _ _ (by omega) hOk ⟨?_, ?_, ?_, ?_, ?_, ?_⟩ ⟨?_, ?_, ?_, ?_, ?_⟩ ?_ ?_ ?_ ?_ ?_ ?_ ?_ ?_ ?_ ?_ ?_ ?_ ?_ <;> simp (config := { maxSteps := 500000 }) only [↓vp, vv, implies_true, forall_const, undef, InI, ↓reduceIte, simprocAttr, netD, w1]
    have y1 : (O.length + 1) * 8 ≤ 140737488355328 := by omega
    have y2 : O.length + 1 ≤ 4611686018427387904 := by omega
    cases c1 : (x.fr == at0) with
    | true =>
      cases c3 : decide (at0 < x.fr + x.to - at0) with
      | false =>
        simp (config := { maxSteps := 500000 }) only [↓vp, vv, implies_true, forall_const, undef, InI, ↓reduceIte, simprocAttr, c20_8, c20_7, c20_6, TPl, selAbs, PF, PH, BO, netD, hj', hjn, hjq, hjq', Int.toNat_natCast, hg, hg2, hab, hm2, w2, w3, w4, Seg.row, c1, c3, w1]
        refine nx O go _ _ (by omega) hOk ⟨?_, ?_, ?_, ?_, ?_, ?_⟩ ⟨?_, ?_, ?_, ?_, ?_⟩ ?_ ?_ ?_ ?_ ?_ ?_ ?_ ?_ ?_ ?_ ?_ ?_ ?_ <;> simp (config := { maxSteps := 500000 }) only [↓vp, vv, implies_true, forall_const, undef, InI, ↓reduceIte, simprocAttr, netD, w1, nRow, List.map_append]
      | true =>
        cases c4 : decide (absI r + rate ≤ minC x.cap) with
        | false =>
          simp (config := { maxSteps := 500000 }) only [↓vp, vv, implies_true, forall_const, undef, InI, ↓reduceIte, simprocAttr, c20_8, c20_7, c20_6, TPl, selAbs, PF, PH, BO, netD, hj', hjn, hjq, hjq', Int.toNat_natCast, hg, hg2, hab, hm2, w2, w3, w4, Seg.row, c1, c3, c4, w1]
          refine nx O go _ _ (by omega) hOk ⟨?_, ?_, ?_, ?_, ?_, ?_⟩ ⟨?_, ?_, ?_, ?_, ?_⟩ ?_ ?_ ?_ ?_ ?_ ?_ ?_ ?_ ?_ ?_ ?_ ?_ ?_ <;> simp (config := { maxSteps := 500000 }) only [↓vp, vv, implies_true, forall_const, undef, InI, ↓reduceIte, simprocAttr, netD, w1, nRow, List.map_append]
        | true =>
          have hnew : OutOk n R rate at0 j := ⟨x, r, hx, hy, (.inl (by simpa using c1)), by simpa using c3, by simpa using c4⟩
          simp (config := { maxSteps := 500000 }) only [↓vp, vv, implies_true, forall_const, undef, InI, ↓reduceIte, simprocAttr, c20_8, c20_7, c20_6, TPl, selAbs, PF, PH, BO, netD, hj', hjn, hjq, hjq', Int.toNat_natCast, hg, hg2, hab, hm2, w2, w3, w4, Seg.row, c1, c3, c4, y1, y2, w1]
          refine nx (O ++ [j]) (go + 1) _ _ (by rw [List.length_append, List.length_singleton]; omega) (fun k hk => by
            rcases List.mem_append.1 hk with hk | hk
            · exact hOk k hk
            · rw [List.mem_singleton.1 hk]; exact hnew) ⟨?_, ?_, ?_, ?_, ?_, ?_⟩ ⟨?_, ?_, ?_, ?_, ?_⟩ ?_ ?_ ?_ ?_ ?_ ?_ ?_ ?_ ?_ ?_ ?_ ?_ ?_ <;> simp (config := { maxSteps := 500000 }) only [↓vp, vv, implies_true, forall_const, undef, InI, ↓reduceIte, simprocAttr, netD, w1, nRow, List.map_append]
    | false =>
      cases c2 : (x.to == at0) with
      | true =>
        cases c3 : decide (at0 < x.fr + x.to - at0) with
        | false =>
          simp (config := { maxSteps := 500000 }) only [↓vp, vv, implies_true, forall_const, undef, InI, ↓reduceIte, simprocAttr, c20_8, c20_7, c20_6, TPl, selAbs, PF, PH, BO, netD, hj', hjn, hjq, hjq', Int.toNat_natCast, hg, hg2, hab, hm2, w2, w3, w4, Seg.row, c1, c2, c3, w1]
          refine nx O go _ _ (by omega) hOk ⟨?_, ?_, ?_, ?_, ?_, ?_⟩ ⟨?_, ?_, ?_, ?_, ?_⟩ ?_ ?_ ?_ ?_ ?_ ?_ ?_ ?_ ?_ ?_ ?_ ?_ ?_ <;> simp (config := { maxSteps := 500000 }) only [↓vp, vv, implies_true, forall_const, undef, InI, ↓reduceIte, simprocAttr, netD, w1, nRow, List.map_append]
        | true =>
          cases c4 : decide (absI r + rate ≤ minC x.cap) with
          | false =>
            simp (config := { maxSteps := 500000 }) only [↓vp, vv, implies_true, forall_const, undef, InI, ↓reduceIte, simprocAttr, c20_8, c20_7, c20_6, TPl, selAbs, PF, PH, BO, netD, hj', hjn, hjq, hjq', Int.toNat_natCast, hg, hg2, hab, hm2, w2, w3, w4, Seg.row, c1, c2, c3, c4, w1]
            refine nx O go _ _ (by omega) hOk ⟨?_, ?_, ?_, ?_, ?_, ?_⟩ ⟨?_, ?_, ?_, ?_, ?_⟩ ?_ ?_ ?_ ?_ ?_ ?_ ?_ ?_ ?_ ?_ ?_ ?_ ?_ <;> simp (config := { maxSteps := 500000 }) only [↓vp, vv, implies_true, forall_const, undef, InI, ↓reduceIte, simprocAttr, netD, w1, nRow, List.map_append]
          | true =>
            have hnew : OutOk n R rate at0 j := ⟨x, r, hx, hy, (.inr (by simpa using c2)), by simpa using c3, by simpa using c4⟩
            simp (config := { maxSteps := 500000 }) only [↓vp, vv, implies_true, forall_const, undef, InI, ↓reduceIte, simprocAttr, c20_8, c20_7, c20_6, TPl, selAbs, PF, PH, BO, netD, hj', hjn, hjq, hjq', Int.toNat_natCast, hg, hg2, hab, hm2, w2, w3, w4, Seg.row, c1, c2, c3, c4, y1, y2, w1]
            refine nx (O ++ [j]) (go + 1) _ _ (by rw [List.length_append, List.length_singleton]; omega) (fun k hk => by
              rcases List.mem_append.1 hk with hk | hk
              · exact hOk k hk
              · rw [List.mem_singleton.1 hk]; exact hnew) ⟨?_, ?_, ?_, ?_, ?_, ?_⟩ ⟨?_, ?_, ?_, ?_, ?_⟩ ?_ ?_ ?_ ?_ ?_ ?_ ?_ ?_ ?_ ?_ ?_ ?_ ?_ <;> simp (config := { maxSteps := 500000 }) only [↓vp, vv, implies_true, forall_const, undef, InI, ↓reduceIte, simprocAttr, netD, w1, nRow, List.map_append]
      | false => exact key _ _ c1 c2 rfl
  · have hj2 : j = n.segs.length := by omega
    have hj' : ¬ (j : Int) < n.segs.length := by omega
    simp (config := { maxSteps := 500000 }) only [↓vp, vv, implies_true, forall_const, undef, InI, ↓reduceIte, simprocAttr, c20_8, PF, hj']
    refine hX _ O go hOk (by omega) ⟨?_, ?_, ?_, ?_, ?_, ?_⟩ ⟨?_, ?_, ?_, ?_, ?_⟩ ?_ <;> simp (config := { maxSteps := 500000 }) only [↓vp, vv, implies_true, forall_const, undef, InI, ↓reduceIte, simprocAttr, ]
end Go.Proofs.Ytkjibmfggeibjaa
