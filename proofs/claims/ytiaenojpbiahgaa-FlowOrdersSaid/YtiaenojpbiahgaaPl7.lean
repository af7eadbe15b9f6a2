
/- Plans out of a source: streams. -/
import Derived.Test.YtiaenojpbiahgaaPl6
namespace Go.Proofs.Ytiaenojpbiahgaa
open Go
set_option linter.unusedVariables false
set_option linter.unusedSimpArgs false
set_option maxRecDepth 100000

set_option maxHeartbeats 16000000 in
theorem pl2 (i : Nm) (L : List (List D)) (n : Net) (hv : NetV n) (hp1 : 1 ≤ n.ports.length) (g : Nat) (R Q : List Int) (U : List Bool) (tu : Bool) (c : Nat) (hPG : PG n R Q) (hc : c ≤ 1000)
    (s : St) (Qx : Ex → St → Prop) (at1 : Int) (o1 : SrcOk L at1) (hw : Weak [i] s ⟨fr (PF i tu c []), PH i n g R Q U L at1 Hp.none⟩)
    (hX : ∀ F at2 R Q, SrcOk L at2 → PG n R Q → F 0 = .ptr i 0 0 0 → F 4 = .ptr (i.1 + 1, 4) 0 0 0 → F 5 = .ptr (i.1 + 1, 5) 0 0 0 → F 7 = db tu → Qx (.exit 2) ⟨F, PH i n g R Q U L at2 Hp.none⟩) :
    vc TPl (fun t => (i.1 + 1, t)) [i] (.loop c27_23) Qx s := by
  have hnl := hv.nl
  have hql := hv.ql
  rw [vc_loop]
  refine ⟨fun m s => ∃ at' R Q, SrcOk L at' ∧ PG n R Q ∧ m ≤ c ∧ s = ⟨fr (PF i tu m []), PH i n g R Q U L at' Hp.none⟩, ⟨c, _, hw, at1, R, Q, o1, hPG, Nat.le_refl _, rfl⟩, ?_⟩
  rintro m s ⟨at2, R, Q, o2, hG, hmc, rfl⟩
  have nx : 0 < m → ∀ (at3 : Int) (R Q : List Int) (F : Fr) (H : Hp), SrcOk L at3 → PG n R Q → F 0 = .ptr i 0 0 0 → F 3 = .ptr (i.1 + 1, 3) 0 0 0 → F 4 = .ptr (i.1 + 1, 4) 0 0 0 → F 5 = .ptr (i.1 + 1, 5) 0 0 0 → F 7 = db tu → F 8 = di (m - 1 : Nat) →
        H i = some (sE L at3) → H (i.1 + 1, 3) = some ⟨0, 6, [netD n]⟩ → H (i.1 + 1, 4) = some ⟨0, 3, [[.mt, .mt, .mt]]⟩ → H (i.1 + 1, 5) = some ⟨0, 3, [[.own (i.1 + 1, 25) 0 0 R.length, .own (i.1 + 1, 29) 0 0 Q.length, .own (i.1 + 1, 1005) g 0 U.length]]⟩ → H (i.1 + 1, 25) = some ⟨0, 1, R.map iRow⟩ → H (i.1 + 1, 29) = some ⟨0, 1, Q.map iRow⟩ → H (i.1 + 1, 1005) = some ⟨g, 1, U.map bRow⟩ →
        ∃ k' s', k' < m ∧ Weak [i] ⟨F, H⟩ s' ∧ ∃ at' R Q, SrcOk L at' ∧ PG n R Q ∧ k' ≤ c ∧ s' = ⟨fr (PF i tu k' []), PH i n g R Q U L at' Hp.none⟩ := by
    rintro hm at3 R Q F H o3 hG f0 f3 f4 f5 f7 f8 h0 h3 h4 h5 h25 h29 h105
    exact ⟨m - 1, _, by omega, (weak_eq [] [i, (i.1 + 1, 3), (i.1 + 1, 4), (i.1 + 1, 5), (i.1 + 1, 25), (i.1 + 1, 29), (i.1 + 1, 1005)] (PF i tu (m - 1 : Nat) []) (by simp (config := { maxSteps := 500000 }) only [↓vp, vv, implies_true, forall_const, undef, InI, ↓reduceIte, simprocAttr, coverS, PF, PH, netD, iRow, bRow, f0, f3, f4, f5, f7, f8, h0, h3, h4, h5, h25, h29, h105]) (by simp (config := { maxSteps := 500000 }) only [↓vp, vv, implies_true, forall_const, undef, InI, ↓reduceIte, simprocAttr, refsF, PF, PH, netD, iRow, bRow, f0, f3, f4, f5, f7, f8, h0, h3, h4, h5, h25, h29, h105]) (by simp (config := { maxSteps := 500000 }) only [↓vp, vv, implies_true, forall_const, undef, InI, ↓reduceIte, simprocAttr, PF, PH, netD, iRow, bRow, f0, f3, f4, f5, f7, f8, h0, h3, h4, h5, h25, h29, h105]) (by simp) (by simp (config := { maxSteps := 500000 }) only [↓vp, vv, implies_true, forall_const, undef, InI, ↓reduceIte, simprocAttr, PF, PH, netD, iRow, bRow, f0, f3, f4, f5, f7, f8, h0, h3, h4, h5, h25, h29, h105]; try rfl)), at3, R, Q, o3, hG, by omega, rfl⟩
  by_cases hm : 0 < m
  · have hm' : (0 : Int) < m := by omega
    have wm : IntKind.i64.wrap ((m : Int) - 1) = ((m - 1 : Nat) : Int) := by rw [wrap_i (by omega)]; omega
    have b2 : -9223372036854775808 ≤ (n.ports.length : Int) := by omega
    have b3 : (n.ports.length : Int) ≤ 9223372036854775807 := by omega
    simp (config := { maxSteps := 500000 }) only [↓vp, vv, implies_true, forall_const, undef, InI, ↓reduceIte, simprocAttr, c27_23, c27_22, c27_21, TPl, T2, T1, selI, selPick, selRange, PF, PH, netD, hm', wm, o2, b2, b3]
    rintro ⟨at3, o3⟩ av ⟨ha0, ha1, _⟩
    have ha2 := ha1 (by omega)
    obtain ⟨a, rfl⟩ : ∃ a : Nat, av = a := ⟨av.toNat, by omega⟩
    have haq : a < n.ports.length := by omega
    have haQ : a < Q.length := by have := hG.ql; omega
    have haQ' : (a : Int) < Q.length := by omega
    have hg := getD_map Port.row n.ports a haq
    have hg2 := iRow_at Q a haQ
    have hx : n.ports[a]? = some n.ports[a] := List.getElem?_eq_getElem haq
    have hy : Q[a]? = some Q[a] := List.getElem?_eq_getElem haQ
    have hb := hG.qb _ (List.getElem_mem haQ)
    have hpe := hv.pe _ (List.getElem_mem haq)
    generalize n.ports[a] = x at hg hx hpe
    generalize Q[a] = qa at hg2 hy hb
    simp (config := { maxSteps := 500000 }) only [↓vp, vv, implies_true, forall_const, undef, InI, ↓reduceIte, simprocAttr, ha0, ha2, haq, haQ, haQ', hg, hg2, Port.row, Int.toNat_natCast, netD, o3]
    rintro ⟨at4, o4⟩ pk hpk
    simp [IsMem] at hpk
    refine ⟨⟨⟨by omega, by omega⟩, by omega, by omega⟩, ?_⟩
    rintro ⟨at5, o5⟩ rate hrt
    unfold RPost at hrt
    have hr : 1 ≤ rate ∧ rate ≤ 300 := by omega
    have w4 : IntKind.i64.wrap (qa + rate) = qa + rate := wrap_i (by omega)
    cases c1 : decide (qa < 0) with
    | true =>
      have c1' : qa < 0 := by simpa using c1
      simp (config := { maxSteps := 500000 }) only [↓vp, vv, implies_true, forall_const, undef, InI, ↓reduceIte, simprocAttr, c1, c1', netD, wm]
      refine nx hm at5 R Q _ _ o5 hG ?_ ?_ ?_ ?_ ?_ ?_ ?_ ?_ ?_ ?_ ?_ ?_ ?_ <;> simp (config := { maxSteps := 500000 }) only [↓vp, vv, implies_true, forall_const, undef, InI, ↓reduceIte, simprocAttr, netD, wm]
    | false =>
    have c1' : ¬ qa < 0 := by simpa using c1
    cases c2 : decide (1000 < qa + rate) with
    | true =>
      simp (config := { maxSteps := 500000 }) only [↓vp, vv, implies_true, forall_const, undef, InI, ↓reduceIte, simprocAttr, c1, c1', w4, c2, netD, wm]
      refine nx hm at5 R Q _ _ o5 hG ?_ ?_ ?_ ?_ ?_ ?_ ?_ ?_ ?_ ?_ ?_ ?_ ?_ <;> simp (config := { maxSteps := 500000 }) only [↓vp, vv, implies_true, forall_const, undef, InI, ↓reduceIte, simprocAttr, netD, wm]
    | false =>
    have c2' : ¬ 1000 < qa + rate := by simpa using c2
    simp (config := { maxSteps := 500000 }) only [↓vp, vv, implies_true, forall_const, undef, InI, ↓reduceIte, simprocAttr, c1, c1', w4, c2, netD, wm, c27_20]
    refine pl3 i L n hv g R Q U tu m a x.node rate hG.pr hG.ql hG.qb hr hpe _ _ at5 o5 ((weak_own 12 (i.1 + 1, 1012) 1 (by simp (config := { maxSteps := 500000 }) only [↓vp, vv, implies_true, forall_const, undef, InI, ↓reduceIte, simprocAttr, ]) (by simp (config := { maxSteps := 500000 }) only [↓vp, vv, implies_true, forall_const, undef, InI, ↓reduceIte, simprocAttr, ])).trans (weak_eq [] [i, (i.1 + 1, 3), (i.1 + 1, 4), (i.1 + 1, 5), (i.1 + 1, 25), (i.1 + 1, 29), (i.1 + 1, 1005), (i.1 + 1, 1012)] (PF i tu m [(9, di a), (10, di x.node), (11, di rate), (12, .own (i.1 + 1, 1012) 0 0 0), (13, di (-1))]) (by simp (config := { maxSteps := 500000 }) only [↓vp, vv, implies_true, forall_const, undef, InI, ↓reduceIte, simprocAttr, coverS, PF, PH, BW, netD, iRow, bRow]) (by simp (config := { maxSteps := 500000 }) only [↓vp, vv, implies_true, forall_const, undef, InI, ↓reduceIte, simprocAttr, refsF, PF, PH, BW, netD, iRow, bRow]) (by simp (config := { maxSteps := 500000 }) only [↓vp, vv, implies_true, forall_const, undef, InI, ↓reduceIte, simprocAttr, PF, PH, BW, netD, iRow, bRow]) (by simp) (by simp (config := { maxSteps := 500000 }) only [↓vp, vv, implies_true, forall_const, undef, InI, ↓reduceIte, simprocAttr, PF, PH, BW, netD, iRow, bRow]; try rfl))) ?_
    rintro F B at6 W gw e at' o6 hW hWl he hF hFw hB
    obtain ⟨f0, f3, f4, f5, f7, f8⟩ := hF
    obtain ⟨f9, f10, f11, f12, f13⟩ := hFw
    rcases he with rfl | he
    · simp (config := { maxSteps := 500000 }) only [↓vp, vv, implies_true, forall_const, undef, InI, ↓reduceIte, simprocAttr, c27_19, TPl, PF, PH, netD, f0, f3, f4, f5, f7, f8, f9, f10, f11, f12, f13, wm]
      refine nx hm at6 R Q _ _ o6 hG ?_ ?_ ?_ ?_ ?_ ?_ ?_ ?_ ?_ ?_ ?_ ?_ ?_ <;> simp (config := { maxSteps := 500000 }) only [↓vp, vv, implies_true, forall_const, undef, InI, ↓reduceIte, simprocAttr, netD, wm, f0, f3, f4, f5, f7, f8]
    · obtain ⟨hne, k, y, qe, rfl, hk1, hk2, hk3, hk4, hk5⟩ := he
      have hkQ : k < Q.length := by
        rcases Nat.lt_or_ge k Q.length with h | h
        · exact h
        · rw [List.getElem?_eq_none h] at hk2; cases hk2
      have hkQ' : (k : Int) < Q.length := by omega
      have hk0 := idx_nn k
      have hk6 : ¬ (k : Int) < 0 := by omega
      have ha0' := idx_nn a
      have hQk : Q[k] = qe := by rw [List.getElem?_eq_getElem hkQ] at hk2; cases hk2; rfl
      have hg3 := iRow_at Q k hkQ
      rw [hQk] at hg3
      have hqe := hG.qb qe (List.mem_of_getElem? hk2)
      have w5 : IntKind.i64.wrap (qe - rate) = qe - rate := wrap_i (by omega)
      have hnek : a ≠ k := fun h => hne (by rw [h])
      have hG2 := pg_step hG hW hr.1 hx hk1 hnek rfl hk3 hy hk2 (by omega) (by omega) hk4 hk5
      have hls : ((Q.set a (qa + rate)).set k (qe - rate)).length = Q.length := by rw [List.length_set, List.length_set]
      have hls2 : (Q.set a (qa + rate)).length = Q.length := List.length_set
      have hg4 : ((Q.set a (qa + rate)).map iRow).getD k [] = [di qe] := by
        rw [iRow_at _ k (by rw [List.length_set]; exact hkQ), List.getElem_set_ne hnek, hQk]
      simp (config := { maxSteps := 500000 }) only [↓vp, vv, implies_true, forall_const, undef, InI, ↓reduceIte, simprocAttr, c27_19, c27_18, TPl, PF, PH, netD, f0, f3, f4, f5, f7, f8, f9, f10, f11, f12, f13, hk0, hk6, ha0', haQ, haQ', hkQ, hkQ', hg2, hg3, hg4, Int.toNat_natCast, w4, w5, iRow_set, hls, hls2, List.length_set]
      refine pl6 i L n hv g R ((Q.set a (qa + rate)).set k (qe - rate)) U tu m rate W hG.pr hW.room hW.nd hr (by omega) _ _ at6 (weak_eq [(i.1 + 1, 1012)] [i, (i.1 + 1, 3), (i.1 + 1, 4), (i.1 + 1, 5), (i.1 + 1, 25), (i.1 + 1, 29), (i.1 + 1, 1005)] (PF i tu m [(11, di rate), (239, .sl (W.map nRow)), (240, di W.length), (241, di 0)]) (by simp (config := { maxSteps := 500000 }) only [↓vp, vv, implies_true, forall_const, undef, InI, ↓reduceIte, simprocAttr, coverS, PF, PH, netD, iRow, bRow, nRow, f0, f3, f4, f5, f7, f8, f11, f12, hB, hls, hls2, w4, w5, List.length_set]) (by simp (config := { maxSteps := 500000 }) only [↓vp, vv, implies_true, forall_const, undef, InI, ↓reduceIte, simprocAttr, refsF, PF, PH, netD, iRow, bRow, nRow, f0, f3, f4, f5, f7, f8, f11, f12, hB, hls, hls2, w4, w5, List.length_set]) (by simp (config := { maxSteps := 500000 }) only [↓vp, vv, implies_true, forall_const, undef, InI, ↓reduceIte, simprocAttr, PF, PH, netD, iRow, bRow, nRow, f0, f3, f4, f5, f7, f8, f11, f12, hB, hls, hls2, w4, w5, List.length_set]) (by simp) (by simp (config := { maxSteps := 500000 }) only [↓vp, vv, implies_true, forall_const, undef, InI, ↓reduceIte, simprocAttr, PF, PH, netD, iRow, bRow, nRow, f0, f3, f4, f5, f7, f8, f11, f12, hB, hls, hls2, w4, w5, List.length_set]; try rfl)) ?_
      rintro F2 ⟨f0, f3, f4, f5, f7, f8⟩
      have hbl := bumps_len n rate W R
      simp (config := { maxSteps := 500000 }) only [↓vp, vv, implies_true, forall_const, undef, InI, ↓reduceIte, simprocAttr, TPl, PF, PH, netD, f0, f3, f4, f5, f7, f8, wm]
      refine nx hm at6 _ _ _ _ o6 hG2 ?_ ?_ ?_ ?_ ?_ ?_ ?_ ?_ ?_ ?_ ?_ ?_ ?_ <;> simp (config := { maxSteps := 500000 }) only [↓vp, vv, implies_true, forall_const, undef, InI, ↓reduceIte, simprocAttr, netD, wm, f0, f3, f4, f5, f7, f8]
  · obtain rfl : m = 0 := by omega
    simp (config := { maxSteps := 500000 }) only [↓vp, vv, implies_true, forall_const, undef, InI, ↓reduceIte, simprocAttr, c27_23, PF]
    refine hX _ at2 R Q o2 hG ?_ ?_ ?_ ?_ <;> simp (config := { maxSteps := 500000 }) only [↓vp, vv, implies_true, forall_const, undef, InI, ↓reduceIte, simprocAttr, ]
end Go.Proofs.Ytiaenojpbiahgaa
