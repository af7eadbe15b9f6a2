
/- Plans out of a source: the inner loops. -/
import Derived.Test.YtiaenojpbiahgaaPl2
namespace Go.Proofs.Ytiaenojpbiahgaa
open Go
set_option linter.unusedVariables false
set_option linter.unusedSimpArgs false
set_option maxRecDepth 100000

def selAbs : List D → Option (Prop × D)
  | [.v (.int .i64 x)] => some (-1000000 ≤ x ∧ x ≤ 1000000, di (absI x))
  | _ => Option.none
def selNeg : List D → Option (Prop × D)
  | [.agg r] => match plnOf1 r with
    | some p => some (SmI p.rates ∧ SmI p.ports ∧ p.pumps.length ≤ 1000000, (negP p).enc)
    | Option.none => Option.none
  | _ => Option.none
def TPl : Tbl := tc 64 (rowPu selAbs) (tc 35 (rowPu selNeg) T2)
theorem TPl_ok : TblOk Try.prog TPl := by
  refine tc_pu f64_ok (fun args pre d h hp nn => ?_) (tc_pu f35_ok (fun args pre d h hp nn => ?_) T2_ok)
  · unfold selAbs at h
    split at h <;> cases h
    exact kabs_c _ hp nn
  · unfold selNeg at h
    split at h
    · split at h
      · rename_i e
        cases h
        rw [plnOf1_eq e]
        exact negated_c _ hp.1 hp.2.1 hp.2.2 nn
      · cases h
    · cases h
def PH (i : Nm) (n : Net) (g : Nat) (R Q : List Int) (U : List Bool) (L : List (List D)) (at' : Int) (B : Hp) : Hp :=
  ((((((B.put (i.1 + 1, 1005) ⟨g, 1, U.map bRow⟩).put (i.1 + 1, 29) ⟨0, 1, Q.map iRow⟩).put (i.1 + 1, 25) ⟨0, 1, R.map iRow⟩).put (i.1 + 1, 5) ⟨0, 3, [[.own (i.1 + 1, 25) 0 0 R.length, .own (i.1 + 1, 29) 0 0 Q.length, .own (i.1 + 1, 1005) g 0 U.length]]⟩).put (i.1 + 1, 4) ⟨0, 3, [[.mt, .mt, .mt]]⟩).put (i.1 + 1, 3) ⟨0, 6, [netD n]⟩).put i (sE L at')
def BW (i : Nm) (gw : Nat) (W : List Nat) : Hp := Hp.none.put (i.1 + 1, 1012) ⟨gw, 1, W.map nRow⟩
def BO (i : Nm) (gw : Nat) (W : List Nat) (go : Nat) (O : List Nat) : Hp := (Hp.none.put (i.1 + 1, 1016) ⟨go, 1, O.map nRow⟩).put (i.1 + 1, 1012) ⟨gw, 1, W.map nRow⟩
def PF (i : Nm) (tu : Bool) (c : Int) (l : List (Nat × D)) : List (Nat × D) := (0, .ptr i 0 0 0) :: (3, .ptr (i.1 + 1, 3) 0 0 0) :: (4, .ptr (i.1 + 1, 4) 0 0 0) :: (5, .ptr (i.1 + 1, 5) 0 0 0) :: (7, db tu) :: (8, di c) :: l
structure PFk (i : Nm) (tu : Bool) (c : Int) (F : Fr) : Prop where
  f0 : F 0 = .ptr i 0 0 0
  f3 : F 3 = .ptr (i.1 + 1, 3) 0 0 0
  f4 : F 4 = .ptr (i.1 + 1, 4) 0 0 0
  f5 : F 5 = .ptr (i.1 + 1, 5) 0 0 0
  f7 : F 7 = db tu
  f8 : F 8 = di c
structure PFw (a at0 rate : Int) (i : Nm) (gw : Nat) (W : List Nat) (e : Int) (F : Fr) : Prop where
  f9 : F 9 = di a
  f10 : F 10 = di at0
  f11 : F 11 = di rate
  f12 : F 12 = .own (i.1 + 1, 1012) gw 0 W.length
  f13 : F 13 = di e
/-- A port at which a way may end. -/
def EndOk (n : Net) (Q : List Int) (a rate at' e : Int) : Prop := e ≠ a ∧ ∃ (k : Nat) (y : Port) (q : Int), e = k ∧ n.ports[k]? = some y ∧ Q[k]? = some q ∧ y.node = at' ∧ q ≤ 0 ∧ -1000 ≤ q - rate
set_option maxHeartbeats 16000000 in
theorem pl4 (i : Nm) (L : List (List D)) (n : Net) (g : Nat) (R Q : List Int) (U : List Bool) (tu : Bool) (c a at0 rate : Int) (gw : Nat) (W : List Nat) (hql : n.ports.length ≤ 1000000) (hQl : Q.length = n.ports.length) (hQb : ∀ r ∈ Q, -1000 ≤ r ∧ r ≤ 1000) (hr : 1 ≤ rate ∧ rate ≤ 300)
    (s : St) (Qx : Ex → St → Prop) (at1 : Int) (o1 : SrcOk L at1) (hw : Weak [i] s ⟨fr (PF i tu c [(9, di a), (10, di at0), (11, di rate), (12, .own (i.1 + 1, 1012) gw 0 W.length), (13, di (-1)), (90, .sl (n.ports.map Port.row)), (91, di n.ports.length), (92, di 0)]), PH i n g R Q U L at1 (BW i gw W)⟩)
    (hX : ∀ F at2 e, SrcOk L at2 → (e = -1 ∨ EndOk n Q a rate at0 e) → PFk i tu c F → PFw a at0 rate i gw W e F → Qx (.exit 6) ⟨F, PH i n g R Q U L at2 (BW i gw W)⟩) :
    vc TPl (fun t => (i.1 + 1, t)) [i] (.loop c27_5) Qx s := by
  rw [vc_loop]
  refine ⟨fun m s => ∃ at' e j, j + m = n.ports.length ∧ SrcOk L at' ∧ (e = -1 ∨ EndOk n Q a rate at0 e) ∧ s = ⟨fr (PF i tu c [(9, di a), (10, di at0), (11, di rate), (12, .own (i.1 + 1, 1012) gw 0 W.length), (13, di e), (90, .sl (n.ports.map Port.row)), (91, di n.ports.length), (92, di (j : Nat))]), PH i n g R Q U L at' (BW i gw W)⟩, ⟨n.ports.length, _, hw, at1, -1, 0, by omega, o1, .inl rfl, rfl⟩, ?_⟩
  rintro m s ⟨at2, e, j, hm, o2, he, rfl⟩
  by_cases hj : j < n.ports.length
  · have hj' : (j : Int) < n.ports.length := by omega
    have hjn := idx_nn j
    have w1 := idx_next (j := j) (by omega)
    have hjq : j < Q.length := by omega
    have hjq' : (j : Int) < Q.length := by omega
    have hg := getD_map Port.row n.ports j hj
    have hg2 := iRow_at Q j hjq
    have hx : n.ports[j]? = some n.ports[j] := List.getElem?_eq_getElem hj
    have hy : Q[j]? = some Q[j] := List.getElem?_eq_getElem hjq
    have hb := hQb _ (List.getElem_mem hjq)
    generalize n.ports[j] = x at hg hx
    generalize Q[j] = q at hg2 hy hb
    have w2 : IntKind.i64.wrap (q - rate) = q - rate := wrap_i (by omega)
    have nx : ∀ (at3 e' : Int) (F : Fr) (H : Hp), SrcOk L at3 → (e' = -1 ∨ EndOk n Q a rate at0 e') → PFk i tu c F → PFw a at0 rate i gw W e' F → F 90 = .sl (n.ports.map Port.row) → F 91 = di n.ports.length → F 92 = di (j + 1 : Nat) →
        H i = some (sE L at3) → H (i.1 + 1, 3) = some ⟨0, 6, [netD n]⟩ → H (i.1 + 1, 4) = some ⟨0, 3, [[.mt, .mt, .mt]]⟩ → H (i.1 + 1, 5) = some ⟨0, 3, [[.own (i.1 + 1, 25) 0 0 R.length, .own (i.1 + 1, 29) 0 0 Q.length, .own (i.1 + 1, 1005) g 0 U.length]]⟩ → H (i.1 + 1, 25) = some ⟨0, 1, R.map iRow⟩ → H (i.1 + 1, 29) = some ⟨0, 1, Q.map iRow⟩ → H (i.1 + 1, 1005) = some ⟨g, 1, U.map bRow⟩ → H (i.1 + 1, 1012) = some ⟨gw, 1, W.map nRow⟩ →
        ∃ k' s', k' < m ∧ Weak [i] ⟨F, H⟩ s' ∧ ∃ at' e j, j + k' = n.ports.length ∧ SrcOk L at' ∧ (e = -1 ∨ EndOk n Q a rate at0 e) ∧ s' = ⟨fr (PF i tu c [(9, di a), (10, di at0), (11, di rate), (12, .own (i.1 + 1, 1012) gw 0 W.length), (13, di e), (90, .sl (n.ports.map Port.row)), (91, di n.ports.length), (92, di (j : Nat))]), PH i n g R Q U L at' (BW i gw W)⟩ := by
      rintro at3 e' F H o3 he' ⟨f0, f3, f4, f5, f7, f8⟩ ⟨f9, f10, f11, f12, f13⟩ f90 f91 f92 h0 h3 h4 h5 h25 h29 h105 h112
      exact ⟨m - 1, _, by omega, (weak_eq [] [i, (i.1 + 1, 3), (i.1 + 1, 4), (i.1 + 1, 5), (i.1 + 1, 25), (i.1 + 1, 29), (i.1 + 1, 1005), (i.1 + 1, 1012)] (PF i tu c [(9, di a), (10, di at0), (11, di rate), (12, .own (i.1 + 1, 1012) gw 0 W.length), (13, di e'), (90, .sl (n.ports.map Port.row)), (91, di n.ports.length), (92, di (j + 1 : Nat))]) (by simp (config := { maxSteps := 500000 }) only [↓vp, vv, implies_true, forall_const, undef, InI, ↓reduceIte, simprocAttr, coverS, PF, PH, BW, netD, iRow, bRow, nRow, f0, f3, f4, f5, f7, f8, f9, f10, f11, f12, f13, f90, f91, f92, h0, h3, h4, h5, h25, h29, h105, h112]) (by simp (config := { maxSteps := 500000 }) only [↓vp, vv, implies_true, forall_const, undef, InI, ↓reduceIte, simprocAttr, refsF, PF, PH, BW, netD, iRow, bRow, nRow, f0, f3, f4, f5, f7, f8, f9, f10, f11, f12, f13, f90, f91, f92, h0, h3, h4, h5, h25, h29, h105, h112]) (by simp (config := { maxSteps := 500000 }) only [↓vp, vv, implies_true, forall_const, undef, InI, ↓reduceIte, simprocAttr, PF, PH, BW, netD, iRow, bRow, nRow, f0, f3, f4, f5, f7, f8, f9, f10, f11, f12, f13, f90, f91, f92, h0, h3, h4, h5, h25, h29, h105, h112]) (by simp) (by simp (config := { maxSteps := 500000 }) only [↓vp, vv, implies_true, forall_const, undef, InI, ↓reduceIte, simprocAttr, PF, PH, BW, netD, iRow, bRow, nRow, f0, f3, f4, f5, f7, f8, f9, f10, f11, f12, f13, f90, f91, f92, h0, h3, h4, h5, h25, h29, h105, h112]; try rfl)), at3, e', j + 1, by omega, o3, he', rfl⟩
    cases c1 : (x.node == at0) with
    | false =>
      simp (config := { maxSteps := 500000 }) only [↓vp, vv, implies_true, forall_const, undef, InI, ↓reduceIte, simprocAttr, c27_5, c27_4, c27_3, TPl, T2, T1, selI, PF, PH, BW, netD, hj', hjn, Int.toNat_natCast, hg, Port.row, c1, w1]
      refine nx at2 e _ _ o2 he ⟨?_, ?_, ?_, ?_, ?_, ?_⟩ ⟨?_, ?_, ?_, ?_, ?_⟩ ?_ ?_ ?_ ?_ ?_ ?_ ?_ ?_ ?_ ?_ ?_ <;> simp (config := { maxSteps := 500000 }) only [↓vp, vv, implies_true, forall_const, undef, InI, ↓reduceIte, simprocAttr, netD, w1]
    | true =>
    cases c2 : ((j : Int) != a) with
    | false =>
      simp (config := { maxSteps := 500000 }) only [↓vp, vv, implies_true, forall_const, undef, InI, ↓reduceIte, simprocAttr, c27_5, c27_4, c27_3, TPl, T2, T1, selI, PF, PH, BW, netD, hj', hjn, Int.toNat_natCast, hg, hg2, Port.row, c1, c2, w1]
      refine nx at2 e _ _ o2 he ⟨?_, ?_, ?_, ?_, ?_, ?_⟩ ⟨?_, ?_, ?_, ?_, ?_⟩ ?_ ?_ ?_ ?_ ?_ ?_ ?_ ?_ ?_ ?_ ?_ <;> simp (config := { maxSteps := 500000 }) only [↓vp, vv, implies_true, forall_const, undef, InI, ↓reduceIte, simprocAttr, netD, w1]
    | true =>
    cases c3 : decide (q ≤ 0) with
    | false =>
      simp (config := { maxSteps := 500000 }) only [↓vp, vv, implies_true, forall_const, undef, InI, ↓reduceIte, simprocAttr, c27_5, c27_4, c27_3, TPl, T2, T1, selI, PF, PH, BW, netD, hj', hjn, Int.toNat_natCast, hg, hg2, Port.row, c1, c2, hjq, hjq', c3, w1]
      refine nx at2 e _ _ o2 he ⟨?_, ?_, ?_, ?_, ?_, ?_⟩ ⟨?_, ?_, ?_, ?_, ?_⟩ ?_ ?_ ?_ ?_ ?_ ?_ ?_ ?_ ?_ ?_ ?_ <;> simp (config := { maxSteps := 500000 }) only [↓vp, vv, implies_true, forall_const, undef, InI, ↓reduceIte, simprocAttr, netD, w1]
    | true =>
    cases c4 : decide (-1000 ≤ q - rate) with
    | false =>
      simp (config := { maxSteps := 500000 }) only [↓vp, vv, implies_true, forall_const, undef, InI, ↓reduceIte, simprocAttr, c27_5, c27_4, c27_3, TPl, T2, T1, selI, PF, PH, BW, netD, hj', hjn, Int.toNat_natCast, hg, hg2, Port.row, c1, c2, hjq, hjq', c3, w2, c4, w1]
      refine nx at2 e _ _ o2 he ⟨?_, ?_, ?_, ?_, ?_, ?_⟩ ⟨?_, ?_, ?_, ?_, ?_⟩ ?_ ?_ ?_ ?_ ?_ ?_ ?_ ?_ ?_ ?_ ?_ <;> simp (config := { maxSteps := 500000 }) only [↓vp, vv, implies_true, forall_const, undef, InI, ↓reduceIte, simprocAttr, netD, w1]
    | true =>
    cases c5 : decide ((0 : Int) < W.length) with
    | false =>
      simp (config := { maxSteps := 500000 }) only [↓vp, vv, implies_true, forall_const, undef, InI, ↓reduceIte, simprocAttr, c27_5, c27_4, c27_3, TPl, T2, T1, selI, PF, PH, BW, netD, hj', hjn, Int.toNat_natCast, hg, hg2, Port.row, c1, c2, hjq, hjq', c3, w2, c4, c5, w1]
      refine nx at2 e _ _ o2 he ⟨?_, ?_, ?_, ?_, ?_, ?_⟩ ⟨?_, ?_, ?_, ?_, ?_⟩ ?_ ?_ ?_ ?_ ?_ ?_ ?_ ?_ ?_ ?_ ?_ <;> simp (config := { maxSteps := 500000 }) only [↓vp, vv, implies_true, forall_const, undef, InI, ↓reduceIte, simprocAttr, netD, w1]
    | true =>
      simp (config := { maxSteps := 500000 }) only [↓vp, vv, implies_true, forall_const, undef, InI, ↓reduceIte, simprocAttr, c27_5, c27_4, c27_3, TPl, T2, T1, selI, PF, PH, BW, netD, hj', hjn, Int.toNat_natCast, hg, hg2, Port.row, c1, c2, hjq, hjq', c3, w2, c4, c5, o2, w1]
      rintro ⟨at3, o3⟩ v hv
      have he2 : EndOk n Q a rate at0 (j : Int) := ⟨by simpa using c2, j, x, q, rfl, hx, hy, by simpa using c1, by simpa using c3, by simpa using c4⟩
      cases c6 : (v == (0 : Int)) with
      | false =>
        simp (config := { maxSteps := 500000 }) only [↓vp, vv, implies_true, forall_const, undef, InI, ↓reduceIte, simprocAttr, c6, w1]
        refine nx at3 e _ _ o3 he ⟨?_, ?_, ?_, ?_, ?_, ?_⟩ ⟨?_, ?_, ?_, ?_, ?_⟩ ?_ ?_ ?_ ?_ ?_ ?_ ?_ ?_ ?_ ?_ ?_ <;> simp (config := { maxSteps := 500000 }) only [↓vp, vv, implies_true, forall_const, undef, InI, ↓reduceIte, simprocAttr, netD, w1]
      | true =>
        simp (config := { maxSteps := 500000 }) only [↓vp, vv, implies_true, forall_const, undef, InI, ↓reduceIte, simprocAttr, c6, w1]
        refine nx at3 j _ _ o3 (.inr he2) ⟨?_, ?_, ?_, ?_, ?_, ?_⟩ ⟨?_, ?_, ?_, ?_, ?_⟩ ?_ ?_ ?_ ?_ ?_ ?_ ?_ ?_ ?_ ?_ ?_ <;> simp (config := { maxSteps := 500000 }) only [↓vp, vv, implies_true, forall_const, undef, InI, ↓reduceIte, simprocAttr, netD, w1]
  · have hj2 : j = n.ports.length := by omega
    have hj' : ¬ (j : Int) < n.ports.length := by omega
    simp (config := { maxSteps := 500000 }) only [↓vp, vv, implies_true, forall_const, undef, InI, ↓reduceIte, simprocAttr, c27_5, PF, hj']
    refine hX _ at2 e o2 he ⟨?_, ?_, ?_, ?_, ?_, ?_⟩ ⟨?_, ?_, ?_, ?_, ?_⟩ <;> simp (config := { maxSteps := 500000 }) only [↓vp, vv, implies_true, forall_const, undef, InI, ↓reduceIte, simprocAttr, ]
end Go.Proofs.Ytiaenojpbiahgaa
