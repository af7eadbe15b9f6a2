/- ToolMade: TdA Td5. -/
import Derived.Test.YtadjhfjiimgddaaTM14
import Derived.Test.YtadjhfjiimgddaaTM15
import Derived.Test.YtadjhfjiimgddaaTM17
import Derived.Test.YtadjhfjiimgddaaTM12
set_option linter.unusedSimpArgs false
set_option linter.unusedVariables false
set_option maxRecDepth 100000

/- Paths: what leaves a node; a path from a port. -/
/- Paths: what leaves a node; a path from a port. -/
namespace Go.Proofs.Ytadjhfjiimgddaa
open Go
def lv2 (x : Seg × Int) (a : Int) : Bool := if decide (x.2 < 0) = true then x.1.to == a else false
def lvS (x : Seg × Int) (a : Int) : Bool := if decide (0 < x.2) = true then (if (x.1.fr == a) = true then true else lv2 x a) else lv2 x a
def lvGo (a : Int) : Nat → List (Seg × Int) → Option (Nat × Bool)
  | _, [] => Option.none
  | k, x :: E => if lvS x a = true then some (k, decide (x.2 < 0)) else lvGo a (k + 1) E
def lvD : Option (Nat × Bool) → D
  | some (k, b) => .tup [.agg [di k, db b], db true]
  | Option.none => .tup [.agg [di 0, db false], db false]
theorem lvGo_drop (a : Int) (E : List (Seg × Int)) (j : Nat) (x : Seg × Int) (h : E[j]? = some x) : lvGo a j (E.drop j) = if lvS x a = true then some (j, decide (x.2 < 0)) else lvGo a (j + 1) (E.drop (j + 1)) := by
  obtain ⟨hk, he⟩ := List.getElem?_eq_some_iff.1 h
  rw [List.drop_eq_getElem_cons hk, he]
  rfl
theorem lvGo_spec {a : Int} : ∀ {E : List (Seg × Int)} {k j : Nat} {b : Bool}, lvGo a k E = some (j, b) → k ≤ j ∧ ∃ x, E[j - k]? = some x ∧ x.2 ≠ 0 ∧ b = decide (x.2 < 0) ∧ (if b = true then x.1.to else x.1.fr) = a
  | [], k, j, b, h => by cases h
  | x :: E, k, j, b, h => by
    unfold lvGo at h
    cases hl : lvS x a with
    | true =>
      rw [hl, if_pos rfl] at h
      injection h with h
      injection h with h1 h2
      subst h1 h2
      refine ⟨Nat.le_refl _, x, by rw [Nat.sub_self]; rfl, ?_, rfl, ?_⟩
      · intro e
        unfold lvS lv2 at hl
        rw [e] at hl
        simp at hl
      · unfold lvS lv2 at hl
        cases c1 : decide (0 < x.2) with
        | true =>
          have : decide (x.2 < 0) = false := decide_eq_false (by simp at c1; omega)
          rw [c1, if_pos rfl, this] at hl
          rw [this, if_neg Bool.false_ne_true]
          cases c2 : (x.1.fr == a) with
          | true => simpa using c2
          | false => rw [c2] at hl; simp at hl
        | false =>
          rw [c1, if_neg Bool.false_ne_true] at hl
          cases c3 : decide (x.2 < 0) with
          | true => rw [c3, if_pos rfl] at hl; rw [if_pos rfl]; simpa using hl
          | false => rw [c3] at hl; simp at hl
    | false =>
      rw [hl, if_neg Bool.false_ne_true] at h
      obtain ⟨q1, y, q2, q3⟩ := lvGo_spec h
      refine ⟨by omega, y, ?_, q3⟩
      rw [show j - k = (j - (k + 1)) + 1 by omega, List.getElem?_cons_succ]
      exact q2
structure LvPre (n : Net) (R : List Int) : Prop where
  l : R.length = n.segs.length
  s : n.segs.length ≤ 1000
set_option maxHeartbeats 8000000 in
theorem leaves_c (n : Net) (R : List Int) (a : Int) (h : LvPre n R) (nn : Nm) : CallsA Try.prog 156 [n.enc, .sl (R.map iRow), di a] Hp.none nn (Pu (lvD (lvGo a 0 (n.segs.zip R))) Hp.none) := by
  obtain ⟨code, h1, h2⟩ := c156_ok
  refine callsA_of (T0_ok _) mixed (N := fun t => (0, t)) Try.func156 h1 h2 r156_ok [] false js_nil js_nil' (by simp [Try.f156]) ?_
  have hl := h.l
  have hs := h.s
  have hzl : (n.segs.zip R).length = n.segs.length := by rw [List.length_zip]; omega
  generalize hX : lvD (lvGo a 0 (n.segs.zip R)) = X
  simp (maxSteps:=500000) only [↓vp, vv, ↓reduceIte, simprocAttr, c156, Net.enc, netD]
  refine rng_loop R.length (fun j => ⟨fr [(1, .sl (R.map iRow)), (2, di a), (3, .ptr (0, 3) 0 0 0), (6, .ptr (0, 6) 0 0 0), (8, di (j : Nat))], (Hp.none.put (0, 6) ⟨0, 2, [[di 0, db false]]⟩).put (0, 3) ⟨0, 6, [netD n]⟩⟩) (fun j => lvD (lvGo a j ((n.segs.zip R).drop j)) = X) (weak_eq [] [(0, 3), (0, 6)] [(1, .sl (R.map iRow)), (2, di a), (3, .ptr (0, 3) 0 0 0), (6, .ptr (0, 6) 0 0 0), (8, di 0)] (by simp (maxSteps:=500000) only [↓vp, vv, ↓reduceIte, simprocAttr, coverS, netD]) (by simp (maxSteps:=500000) only [↓vp, vv, ↓reduceIte, simprocAttr, refsF, netD]) (by simp (maxSteps:=500000) only [↓vp, vv, ↓reduceIte, simprocAttr, netD]) (by simp) (by simp (maxSteps:=500000) only [↓vp, vv, ↓reduceIte, simprocAttr, netD]; try rfl)) hX (fun j hj hP => ?_) (fun hP => ?_)
  · have hj' : (j : Int) < R.length := by omega
    have hjs : j < n.segs.length := by omega
    have hjs' : (j : Int) < n.segs.length := by omega
    have hjn := idx_nn j
    have w1 := idx_next (j := j) (by omega)
    have gr := iRow_at R j hj
    have gs := getD_map Seg.row n.segs j hjs
    have hx := zip_get hjs hj
    rw [lvGo_drop a _ j _ hx] at hP
    generalize R[j] = r at gr hP
    generalize n.segs[j] = s at gs hP
    unfold lvS lv2 at hP
    dsimp only at hP
    cases c1 : decide (0 < r) with
    | true =>
      have c3 : decide (r < 0) = false := decide_eq_false (by simp at c1; omega)
      rw [c1, c3, if_pos rfl, if_neg Bool.false_ne_true] at hP
      cases c2 : (s.fr == a) with
      | true =>
        rw [c2, if_pos rfl, if_pos rfl] at hP
        rw [← hP]
        simp (maxSteps:=500000) only [↓vp, vv, ↓reduceIte, simprocAttr, c156_3, c156_2, r156, netD, hj', hjs', hjn, gr, gs, Seg.row, c1, c2, c3, lvD, Int.toNat_natCast, Pu]
      | false =>
        rw [c2, if_neg Bool.false_ne_true, if_neg Bool.false_ne_true] at hP
        simp (maxSteps:=500000) only [↓vp, vv, ↓reduceIte, simprocAttr, c156_3, c156_2, c156_1, netD, hj', hjs', hjn, gr, gs, Seg.row, c1, c2, c3, w1, Int.toNat_natCast]
        exact rng_next hj (weak_eq [] [(0, 3), (0, 6)] [(1, .sl (R.map iRow)), (2, di a), (3, .ptr (0, 3) 0 0 0), (6, .ptr (0, 6) 0 0 0), (8, di (j + 1 : Nat))] (by simp (maxSteps:=500000) only [↓vp, vv, ↓reduceIte, simprocAttr, coverS, netD, w1]) (by simp (maxSteps:=500000) only [↓vp, vv, ↓reduceIte, simprocAttr, refsF, netD, w1]) (by simp (maxSteps:=500000) only [↓vp, vv, ↓reduceIte, simprocAttr, netD, w1]) (by simp) (by simp (maxSteps:=500000) only [↓vp, vv, ↓reduceIte, simprocAttr, netD, w1]; try rfl)) hP
    | false =>
      rw [c1, if_neg Bool.false_ne_true] at hP
      cases c3 : decide (r < 0) with
      | false =>
        rw [c3, if_neg Bool.false_ne_true, if_neg Bool.false_ne_true] at hP
        simp (maxSteps:=500000) only [↓vp, vv, ↓reduceIte, simprocAttr, c156_3, c156_2, c156_1, netD, hj', hjs', hjn, gr, gs, Seg.row, c1, c3, w1, Int.toNat_natCast]
        exact rng_next hj (weak_eq [] [(0, 3), (0, 6)] [(1, .sl (R.map iRow)), (2, di a), (3, .ptr (0, 3) 0 0 0), (6, .ptr (0, 6) 0 0 0), (8, di (j + 1 : Nat))] (by simp (maxSteps:=500000) only [↓vp, vv, ↓reduceIte, simprocAttr, coverS, netD, w1]) (by simp (maxSteps:=500000) only [↓vp, vv, ↓reduceIte, simprocAttr, refsF, netD, w1]) (by simp (maxSteps:=500000) only [↓vp, vv, ↓reduceIte, simprocAttr, netD, w1]) (by simp) (by simp (maxSteps:=500000) only [↓vp, vv, ↓reduceIte, simprocAttr, netD, w1]; try rfl)) hP
      | true =>
        rw [c3, if_pos rfl] at hP
        cases c2 : (s.to == a) with
        | true =>
          rw [c2, if_pos rfl] at hP
          rw [← hP]
          simp (maxSteps:=500000) only [↓vp, vv, ↓reduceIte, simprocAttr, c156_3, c156_2, r156, netD, hj', hjs', hjn, gr, gs, Seg.row, c1, c2, c3, lvD, Int.toNat_natCast, Pu]
        | false =>
          rw [c2, if_neg Bool.false_ne_true] at hP
          simp (maxSteps:=500000) only [↓vp, vv, ↓reduceIte, simprocAttr, c156_3, c156_2, c156_1, netD, hj', hjs', hjn, gr, gs, Seg.row, c1, c2, c3, w1, Int.toNat_natCast]
          exact rng_next hj (weak_eq [] [(0, 3), (0, 6)] [(1, .sl (R.map iRow)), (2, di a), (3, .ptr (0, 3) 0 0 0), (6, .ptr (0, 6) 0 0 0), (8, di (j + 1 : Nat))] (by simp (maxSteps:=500000) only [↓vp, vv, ↓reduceIte, simprocAttr, coverS, netD, w1]) (by simp (maxSteps:=500000) only [↓vp, vv, ↓reduceIte, simprocAttr, refsF, netD, w1]) (by simp (maxSteps:=500000) only [↓vp, vv, ↓reduceIte, simprocAttr, netD, w1]) (by simp) (by simp (maxSteps:=500000) only [↓vp, vv, ↓reduceIte, simprocAttr, netD, w1]; try rfl)) hP
  · rw [List.drop_of_length_le (by omega)] at hP
    have hP2 : X = .tup [.agg [di 0, db false], db false] := hP.symm
    rw [hP2]
    simp (maxSteps:=500000) only [↓vp, vv, ↓reduceIte, simprocAttr, c156_3, c156_4, r156, netD, Int.lt_irrefl, Pu]
def amtI (r : Int) : Int := if -r > r then -r else r
theorem amount_c (r : Int) (hr : -1000000000 ≤ r ∧ r ≤ 1000000000) (nn : Nm) : CallsA Try.prog 157 [di r] Hp.none nn (Pu (di (amtI r)) Hp.none) := by
  obtain ⟨code, h1, h2⟩ := c157_ok
  refine callsA_of (T0_ok _) mixed (N := fun t => (0, t)) Try.func157 h1 h2 r157_ok [] false js_nil js_nil' (by simp [Try.f157]) ?_
  have wn : IntKind.i64.wrap (0 - r) = -r := by rw [wrap_i (by omega)]; omega
  have em : (if r < -r then -r else r) = amtI r := rfl
  simp (maxSteps:=500000) only [↓vp, vv, ↓reduceIte, simprocAttr, c157, r157, r157, wn, em, Pu]
theorem ends25_c (n : Net) (h : Int × Bool) (hh : 0 ≤ h.1 ∧ h.1 < n.segs.length) (nn : Nm) : CallsA Try.prog 158 [n.enc, .agg (tHop h)] Hp.none nn (Pu (.tup [di (tEnds n h).1, di (tEnds n h).2]) Hp.none) := by
  obtain ⟨code, h1, h2⟩ := c158_ok
  refine callsA_of (T0_ok _) mixed (N := fun t => (0, t)) Try.func158 h1 h2 r158_ok [] false js_nil js_nil' (by simp [Try.f158]) ?_
  obtain ⟨k, b⟩ := h
  obtain ⟨q1, q2⟩ := hh
  dsimp only at q1 q2
  have hk : k.toNat < n.segs.length := by omega
  have gs := getD_map Seg.row n.segs k.toNat hk
  unfold tEnds
  dsimp only
  rw [List.getElem?_eq_getElem hk]
  generalize n.segs[k.toNat] = s at gs
  cases b <;> simp (maxSteps:=500000) only [↓vp, vv, ↓reduceIte, simprocAttr, c158, r158, c158_1, r158, Net.enc, netD, tHop, q1, q2, gs, Seg.row, Pu]
def endE (n : Net) : Int → List (Int × Bool) → Int
  | a, [] => a
  | _, h :: l => endE n (tEnds n h).2 l
theorem unk_f {n : Net} {h : Int × Bool} (hh : 0 ≤ h.1 ∧ h.1 < n.segs.length) : tUnk n h = false := by
  unfold tUnk
  rw [decide_eq_false (by omega), if_neg Bool.false_ne_true]
  exact decide_eq_false (by omega)
theorem chn_add {n : Net} {h : Int × Bool} (hh : 0 ≤ h.1 ∧ h.1 < n.segs.length) : ∀ {w : List (Int × Bool)} {a : Int}, chnB n a w = true → (endE n a w < 0 ∨ endE n a w = (tEnds n h).1) → chnB n a (w ++ [h]) = true
  | [], a, _, he => by
    show chnB n a [h] = true
    unfold chnB
    rw [unk_f hh, if_neg Bool.false_ne_true]
    unfold endE at he
    have hg : (if decide (0 ≤ a) = true then a != (tEnds n h).1 else false) = false := by
      rcases he with he | he
      · rw [decide_eq_false (by omega), if_neg Bool.false_ne_true]
      · have : (a != (tEnds n h).1) = false := by rw [he]; simp
        rw [this]
        split <;> rfl
    rw [hg, if_neg Bool.false_ne_true]
    rfl
  | x :: w, a, hc, he => by
    have hc2 := hc
    unfold chnB at hc
    show chnB n a (x :: (w ++ [h])) = true
    unfold chnB
    cases hu : tUnk n x with
    | true => rw [hu, if_pos rfl] at hc; cases hc
    | false =>
      rw [hu, if_neg Bool.false_ne_true] at hc
      rw [if_neg Bool.false_ne_true]
      generalize (if decide (0 ≤ a) = true then a != (tEnds n x).1 else false) = g at hc ⊢
      cases g with
      | true => rw [if_pos rfl] at hc; cases hc
      | false =>
        rw [if_neg Bool.false_ne_true] at hc ⊢
        exact chn_add hh hc he
theorem end_add (n : Net) (h : Int × Bool) : ∀ (w : List (Int × Bool)) (a : Int), endE n a (w ++ [h]) = (tEnds n h).2
  | [], a => rfl
  | x :: w, a => end_add n h w _
structure FolPre (n : Net) (R Q : List Int) (i : Int) : Prop where
  v : NetV n
  l : R.length = n.segs.length
  ql : Q.length = n.ports.length
  rb : ∀ r ∈ R, -100000000 ≤ r ∧ r ≤ 100000000
  qb : ∀ q ∈ Q, -1000 ≤ q ∧ q ≤ 1000
  ix : 0 ≤ i ∧ i < Q.length
  p : 0 < Q.getD i.toNat 0
structure FolGood (n : Net) (Q : List Int) (i : Int) (w : List (Int × Bool)) (o rt : Int) : Prop where
  ch : chnB n (-1) w = true
  ox : 0 ≤ o ∧ o < Q.length
  lo : 1 ≤ rt
  a : rt ≤ Q.getD i.toNat 0
  b : rt ≤ -(Q.getD o.toNat 0)
structure FolOk (n : Net) (Q : List Int) (i : Int) (w : List (Int × Bool)) (o rt : Int) (ok : Bool) : Prop where
  l : w.length ≤ n.nodes.length + 1
  g : ok = true → FolGood n Q i w o rt
def FoR (n : Net) (Q : List Int) (i : Int) (nn : Nm) : D → Hp → Prop := fun v H' => ∃ (w : List (Int × Bool)) (o rt : Int) (ok : Bool), FolOk n Q i w o rt ok ∧ v = .tup [.agg [di i, di o, .own nn w.length 0 w.length, di rt], db ok] ∧ H' = Hp.none.put nn ⟨w.length, 2, w.map tHop⟩
theorem FoR_all (n : Net) (Q : List Int) (i : Int) (nn : Nm) (K : D → Hp → Prop) : (∀ v H', FoR n Q i nn v H' → K v H') = ∀ (w : List (Int × Bool)) (o rt : Int) (ok : Bool), FolOk n Q i w o rt ok → K (.tup [.agg [di i, di o, .own nn w.length 0 w.length, di rt], db ok]) (Hp.none.put nn ⟨w.length, 2, w.map tHop⟩) :=
  propext ⟨fun h w o rt ok h2 => h _ _ ⟨w, o, rt, ok, h2, rfl, rfl⟩, fun h v H' ⟨w, o, rt, ok, h1, e1, e2⟩ => by rw [e1, e2]; exact h w o rt ok h1⟩
def selLv : List D → Option (Prop × D)
  | [.agg a, .sl rows, .v (.int .i64 k)] => match netOf1 a, lsOf intOf1 rows with
    | some n, some R => some (LvPre n R, lvD (lvGo k 0 (n.segs.zip R)))
    | _, _ => Option.none
  | _ => Option.none
def selAm : List D → Option (Prop × D)
  | [.v (.int .i64 r)] => some (-1000000000 ≤ r ∧ r ≤ 1000000000, di (amtI r))
  | _ => Option.none
def selE25 : List D → Option (Prop × D)
  | [.agg a, .agg b] => match netOf1 a, tHopOf1 b with
    | some n, some h => some (0 ≤ h.1 ∧ h.1 < n.segs.length, .tup [di (tEnds n h).1, di (tEnds n h).2])
    | _, _ => Option.none
  | _ => Option.none
def TFl25 : Tbl := tc 156 (rowPu selLv) (tc 157 (rowPu selAm) (tc 158 (rowPu selE25) T0))
theorem TFl25_ok : TblOk Try.prog TFl25 := tc_pu f156_ok (fun args pre d hs hp nn => by
  unfold selLv at hs
  split at hs
  · split at hs
    · rename_i e1 e2
      cases hs
      rw [netOf1_eq e1, lsOf_eq (fun r x => intOf1_eq) e2]
      exact leaves_c _ _ _ hp nn
    · cases hs
  · cases hs) (tc_pu f157_ok (fun args pre d hs hp nn => by
  unfold selAm at hs
  split at hs
  · cases hs; exact amount_c _ hp nn
  · cases hs) (tc_pu f158_ok (fun args pre d hs hp nn => by
  unfold selE25 at hs
  split at hs
  · split at hs
    · rename_i e1 e2
      cases hs
      rw [netOf1_eq e1, tHopOf1_eq e2]
      exact ends25_c _ _ hp nn
    · cases hs
  · cases hs) (T0_ok _)))
def FoF (c : Nat) (R Q : List Int) (a : Int) (l : List (Nat × D)) : List (Nat × D) := (1, .sl (R.map iRow)) :: (2, .sl (Q.map iRow)) :: (4, .ptr (c, 4) 0 0 0) :: (8, .ptr (c, 8) 0 0 0) :: (10, .ptr (c, 10) 0 0 0) :: (11, di a) :: l
def FoH (n : Net) (c d e : Nat) (i rt : Int) (w : List (Int × Bool)) : Hp := (((Hp.none.put (d, e) ⟨w.length, 2, w.map tHop⟩).put (c, 10) ⟨0, 4, [[di i, di 0, .own (d, e) w.length 0 w.length, di rt]]⟩).put (c, 8) ⟨0, 4, [[di 0, di 0, .mt, di 0]]⟩).put (c, 4) ⟨0, 6, [netD n]⟩
theorem port_at {n : Net} (hv : NetV n) {j : Nat} (h : j < n.ports.length) : ∃ x : Port, (n.ports.map Port.row).getD j [] = x.row ∧ 0 ≤ x.node ∧ x.node < n.nodes.length :=
  ⟨n.ports[j], getD_map Port.row n.ports j h, hv.pe _ (List.getElem_mem h)⟩
theorem int_at (R : List Int) (j : Nat) (h : j < R.length) : (R.map iRow).getD j [] = [di (R.getD j 0)] := by
  rw [iRow_at R j h, List.getD_eq_getElem?_getD, List.getElem?_eq_getElem h]; rfl
theorem int_mem (R : List Int) (j : Nat) (h : j < R.length) : R.getD j 0 ∈ R := by
  rw [List.getD_eq_getElem?_getD, List.getElem?_eq_getElem h]; exact List.getElem_mem h
set_option maxHeartbeats 16000000 in
theorem follow_c (n : Net) (R Q : List Int) (i : Int) (h : FolPre n R Q i) (nn : Nm) : CallsA Try.prog 131 [n.enc, .sl (R.map iRow), .sl (Q.map iRow), di i] Hp.none nn (FoR n Q i nn) := by
  obtain ⟨d, e⟩ := nn
  obtain ⟨code, h1, h2⟩ := c131_ok
  refine callsA_of TFl25_ok mixed (N := fun t => (d + 1, t)) Try.func131 h1 h2 r131_ok [(d, e)] true js_nn js_nn' (by simp [Try.f131]) ?_
  have q1 : (d + 1 = d) = False := by simp
  have q2 : (d = d + 1) = False := by simp
  have hv := h.v
  have hl := h.l
  have hql := h.ql
  have hi := h.ix
  have hp := h.p
  have hsl := hv.sl
  have hpl := hv.ql
  have hnl := hv.nl
  have hi1 := hi.1
  have hi2 := hi.2
  have hi3 : i.toNat < Q.length := by omega
  have gq := int_at Q i.toNat hi3
  have hqi := h.qb _ (int_mem Q i.toNat hi3)
  obtain ⟨px, gp, hx0, hx1⟩ := port_at hv (j := i.toNat) (by omega)
  have hi4 : i < (n.ports.length : Int) := by omega
  generalize hQi : Q.getD i.toNat 0 = qi at *
  simp (maxSteps:=500000) only [↓vp, vv, ↓reduceIte, simprocAttr, c131, Net.enc, netD, gq, gp, Port.row, hi1, hi2, hi3, hi4, q1, q2]
  rw [vc_loop]
  refine ⟨fun m st => ∃ (w : List (Int × Bool)) (a rt : Int), w.length + m = n.nodes.length + 1 ∧ (chnB n (-1) w = true ∧ (endE n (-1) w < 0 ∨ endE n (-1) w = a)) ∧ (1 ≤ rt ∧ rt ≤ qi) ∧ st = ⟨fr (FoF (d + 1) R Q a [(12, di w.length)]), FoH n (d + 1) d e i rt w⟩,
    ⟨n.nodes.length + 1, _, (weak_ownC (d + 1, 10) 0 4 [di i, di 0] [di qi] (d, e) 2 (by simp (maxSteps:=500000) only [↓vp, vv, ↓reduceIte, simprocAttr, q1, q2]) (by simp (maxSteps:=500000) only [↓vp, vv, ↓reduceIte, simprocAttr, q1, q2])).trans (weak_eq [] [(d + 1, 4), (d + 1, 8), (d + 1, 10), (d, e)] (FoF (d + 1) R Q px.node [(12, di 0)]) (by simp (maxSteps:=500000) only [↓vp, vv, ↓reduceIte, simprocAttr, coverS, FoF, FoH, netD, tHop, q1, q2, List.map_nil]) (by simp (maxSteps:=500000) only [↓vp, vv, ↓reduceIte, simprocAttr, refsF, FoF, FoH, netD, tHop, q1, q2, List.map_nil]) (by simp (maxSteps:=500000) only [↓vp, vv, ↓reduceIte, simprocAttr, FoF, FoH, netD, tHop, q1, q2, List.map_nil]) (by simp) (by simp (maxSteps:=500000) only [↓vp, vv, ↓reduceIte, simprocAttr, FoF, FoH, netD, tHop, q1, q2, List.map_nil]; try rfl)), [], px.node, qi, by simp, ⟨rfl, .inl (by unfold endE; omega)⟩, ⟨by omega, Int.le_refl _⟩, rfl⟩, ?_⟩
  rintro m st ⟨w, a, rt, hwm, ⟨hch, hend⟩, ⟨hr1, hr2⟩, rfl⟩
  have hln := idx_nn w.length
  have wl := idx_next (j := w.length) (by omega)
  cases ck : decide ((w.length : Int) ≤ n.nodes.length) with
  | false =>
    simp (maxSteps:=500000) only [↓vp, vv, ↓reduceIte, simprocAttr, c131_8, c131_9, r131, FoF, FoH, netD, ck, q1, q2]
    exact ⟨fun _ _ => rfl, w, 0, rt, false, ⟨by omega, fun h => (by cases h)⟩, rfl, rfl⟩
  | true =>
    have ck' : w.length ≤ n.nodes.length := by have := of_decide_eq_true ck; omega
    simp (maxSteps:=500000) only [↓vp, vv, ↓reduceIte, simprocAttr, c131_8, c131_7, FoF, FoH, netD, ck, q1, q2]
    refine rng_loop Q.length (fun j => ⟨fr (FoF (d + 1) R Q a [(12, di w.length), (13, di (j : Nat))]), FoH n (d + 1) d e i rt w⟩) (fun _ => True) (weak_eq [] [(d + 1, 4), (d + 1, 8), (d + 1, 10), (d, e)] (FoF (d + 1) R Q a [(12, di w.length), (13, di 0)]) (by simp (maxSteps:=500000) only [↓vp, vv, ↓reduceIte, simprocAttr, coverS, FoF, FoH, netD, tHop, q1, q2]) (by simp (maxSteps:=500000) only [↓vp, vv, ↓reduceIte, simprocAttr, refsF, FoF, FoH, netD, tHop, q1, q2]) (by simp (maxSteps:=500000) only [↓vp, vv, ↓reduceIte, simprocAttr, FoF, FoH, netD, tHop, q1, q2]) (by simp) (by simp (maxSteps:=500000) only [↓vp, vv, ↓reduceIte, simprocAttr, FoF, FoH, netD, tHop, q1, q2]; try rfl)) trivial (fun j hj _ => ?_) (fun _ => ?_)
    · have hj' : (j : Int) < Q.length := by omega
      have hjp : j < n.ports.length := by omega
      have hjp' : (j : Int) < n.ports.length := by omega
      have hjn := idx_nn j
      have wj := idx_next (j := j) (by omega)
      have gqj := int_at Q j hj
      have hqj := h.qb _ (int_mem Q j hj)
      obtain ⟨pj, gpj, _, _⟩ := port_at hv hjp
      generalize hQj : Q.getD j 0 = qj at *
      have wn : IntKind.i64.wrap (0 - qj) = -qj := by rw [wrap_i (by omega)]; omega
      cases c1 : (pj.node == a) with
      | false =>
        simp (maxSteps:=500000) only [↓vp, vv, ↓reduceIte, simprocAttr, c131_3, c131_2, c131_1, FoF, FoH, netD, hj', hjp', hjn, gqj, gpj, Port.row, c1, wj, q1, q2, Int.toNat_natCast]
        exact rng_next hj (weak_eq [] [(d + 1, 4), (d + 1, 8), (d + 1, 10), (d, e)] (FoF (d + 1) R Q a [(12, di w.length), (13, di (j + 1 : Nat))]) (by simp (maxSteps:=500000) only [↓vp, vv, ↓reduceIte, simprocAttr, coverS, FoF, FoH, netD, tHop, wj, q1, q2]) (by simp (maxSteps:=500000) only [↓vp, vv, ↓reduceIte, simprocAttr, refsF, FoF, FoH, netD, tHop, wj, q1, q2]) (by simp (maxSteps:=500000) only [↓vp, vv, ↓reduceIte, simprocAttr, FoF, FoH, netD, tHop, wj, q1, q2]) (by simp) (by simp (maxSteps:=500000) only [↓vp, vv, ↓reduceIte, simprocAttr, FoF, FoH, netD, tHop, wj, q1, q2]; try rfl)) trivial
      | true =>
        cases c2 : decide (qj < 0) with
        | false =>
          simp (maxSteps:=500000) only [↓vp, vv, ↓reduceIte, simprocAttr, c131_3, c131_2, c131_1, FoF, FoH, netD, hj', hjp', hjn, gqj, gpj, Port.row, c1, c2, wj, q1, q2, Int.toNat_natCast]
          exact rng_next hj (weak_eq [] [(d + 1, 4), (d + 1, 8), (d + 1, 10), (d, e)] (FoF (d + 1) R Q a [(12, di w.length), (13, di (j + 1 : Nat))]) (by simp (maxSteps:=500000) only [↓vp, vv, ↓reduceIte, simprocAttr, coverS, FoF, FoH, netD, tHop, wj, q1, q2]) (by simp (maxSteps:=500000) only [↓vp, vv, ↓reduceIte, simprocAttr, refsF, FoF, FoH, netD, tHop, wj, q1, q2]) (by simp (maxSteps:=500000) only [↓vp, vv, ↓reduceIte, simprocAttr, FoF, FoH, netD, tHop, wj, q1, q2]) (by simp) (by simp (maxSteps:=500000) only [↓vp, vv, ↓reduceIte, simprocAttr, FoF, FoH, netD, tHop, wj, q1, q2]; try rfl)) trivial
        | true =>
          have hq0 : qj < 0 := by simpa using c2
          simp (maxSteps:=500000) only [↓vp, vv, ↓reduceIte, simprocAttr, c131_3, c131_2, r131, FoF, FoH, netD, hj', hjp', hjn, gqj, gpj, Port.row, c1, c2, wn, q1, q2, Int.toNat_natCast]
          refine ⟨fun _ _ => rfl, w, (j : Int), _, true, ⟨by omega, fun _ => ⟨hch, ⟨by omega, by omega⟩, ?_, ?_, ?_⟩⟩, rfl, rfl⟩
          · split <;> omega
          · rw [hQi]; split <;> omega
          · rw [Int.toNat_natCast, hQj]; split <;> omega
    · have hn1 : netOf1 [D.sl (n.nodes.map nmRow), .sl (n.segs.map Seg.row), .sl (n.ports.map Port.row), .sl (n.sts.map Stn.row), di n.vap, di n.set] = some n := netOf1_row n
      have hR1 : lsOf intOf1 (R.map iRow) = some R := lsOf_map intOf1_row R
      have hlp : LvPre n R := ⟨hl, by omega⟩
      have hsp := @lvGo_spec a (n.segs.zip R) 0
      generalize hg : lvGo a 0 (n.segs.zip R) = g at hsp
      cases g with
      | none =>
        simp (maxSteps:=500000) only [↓vp, vv, ↓reduceIte, simprocAttr, c131_3, c131_5, r131, TFl25, selLv, FoF, FoH, netD, hn1, hR1, hlp, hg, lvD, Int.lt_irrefl, q1, q2]
        exact ⟨fun _ _ => rfl, w, 0, rt, false, ⟨by omega, fun h => (by cases h)⟩, rfl, rfl⟩
      | some kb =>
        obtain ⟨k, b⟩ := kb
        obtain ⟨_, x, hx, hx0, hb, he⟩ := hsp rfl
        rw [Nat.sub_zero] at hx
        have hkl : k < (n.segs.zip R).length := (List.getElem?_eq_some_iff.1 hx).1
        rw [List.length_zip] at hkl
        have hks : k < n.segs.length := by omega
        have hkR : k < R.length := by omega
        have hkR' : (k : Int) < R.length := by omega
        have hkn := idx_nn k
        rw [zip_get hks hkR] at hx
        cases hx
        dsimp only at hx0 hb he
        have gk := iRow_at R k hkR
        have hrk := h.rb _ (List.getElem_mem hkR)
        have hte : (tEnds n ((k : Int), b)).1 = a := by
          unfold tEnds
          dsimp only
          rw [Int.toNat_natCast, List.getElem?_eq_getElem hks]
          dsimp only
          cases b
          · rw [if_neg Bool.false_ne_true] at he ⊢; exact he
          · rw [if_pos rfl] at he ⊢; exact he
        have hin : 0 ≤ (((k : Int), b) : Int × Bool).1 ∧ (((k : Int), b) : Int × Bool).1 < (n.segs.length : Int) := ⟨by dsimp only; omega, by dsimp only; omega⟩
        have hadd := chn_add hin hch (by rcases hend with h1 | h1; exact .inl h1; exact .inr (h1.trans hte.symm))
        have hend2 := end_add n ((k : Int), b) w (-1)
        have hin' : 0 ≤ (k : Int) ∧ (k : Int) < (n.segs.length : Int) := hin
        have ht1 : tHopOf1 [di (k : Int), db b] = some ((k : Int), b) := rfl
        generalize hrr : R[k] = r at *
        have ha : 1 ≤ amtI r ∧ amtI r ≤ 100000000 := by unfold amtI; split <;> omega
        have har : -1000000000 ≤ r ∧ r ≤ 1000000000 := by omega
        have y1 : (w.length + 1) * 16 ≤ 140737488355328 := by omega
        have y2 : w.length + 1 ≤ 4611686018427387904 := by omega
        generalize htt : tEnds n ((k : Int), b) = tt at *
        simp (maxSteps:=500000) only [↓vp, vv, ↓reduceIte, simprocAttr, c131_3, c131_5, c131_4, c131_6, TFl25, selLv, selAm, selE25, FoF, FoH, netD, hn1, hR1, hlp, hg, lvD, gk, ht1, hin', htt, har, hkR', hkn, hkR, y1, y2, wl, Int.lt_irrefl, q1, q2, Int.toNat_natCast]
        exact ⟨m - 1, _, by omega, (weak_eq [] [(d + 1, 4), (d + 1, 8), (d + 1, 10), (d, e)] (FoF (d + 1) R Q tt.2 [(12, di (w ++ [((k : Int), b)]).length)]) (by simp (maxSteps:=500000) only [↓vp, vv, ↓reduceIte, simprocAttr, coverS, FoF, FoH, netD, tHop, wl, q1, q2, List.map_append, List.map_cons, List.map_nil, List.length_append, List.length_cons, List.length_nil]) (by simp (maxSteps:=500000) only [↓vp, vv, ↓reduceIte, simprocAttr, refsF, FoF, FoH, netD, tHop, wl, q1, q2, List.map_append, List.map_cons, List.map_nil, List.length_append, List.length_cons, List.length_nil]) (by simp (maxSteps:=500000) only [↓vp, vv, ↓reduceIte, simprocAttr, FoF, FoH, netD, tHop, wl, q1, q2, List.map_append, List.map_cons, List.map_nil, List.length_append, List.length_cons, List.length_nil]) (by simp) (by simp (maxSteps:=500000) only [↓vp, vv, ↓reduceIte, simprocAttr, FoF, FoH, netD, tHop, wl, q1, q2, List.map_append, List.map_cons, List.map_nil, List.length_append, List.length_cons, List.length_nil]; try rfl)), w ++ [((k : Int), b)], tt.2, _, by rw [List.length_append]; simp; omega, ⟨hadd, .inr hend2⟩, ⟨by split <;> omega, by split <;> omega⟩, rfl⟩
structure Pth where
  inn : Int
  out : Int
  way : List (Int × Bool)
  rate : Int
def Pth.row (x : Pth) : List D := [di x.inn, di x.out, .sl (x.way.map tHop), di x.rate]
def PthOk (n : Net) (x : Pth) : Prop := chnB n (-1) x.way = true ∧ x.way.length ≤ 32
def DivR (n : Net) : D → Hp → Prop := fun v H' => ∃ (l : List Pth) (e : Int), (l.length ≤ 64 ∧ ∀ x ∈ l, PthOk n x) ∧ v = .tup [.sl (l.map Pth.row), di e] ∧ H' = Hp.none
theorem DivR_all (n : Net) (K : D → Hp → Prop) : (∀ v H', DivR n v H' → K v H') = ∀ (l : List Pth) (e : Int), (l.length ≤ 64 ∧ ∀ x ∈ l, PthOk n x) → K (.tup [.sl (l.map Pth.row), di e]) Hp.none :=
  propext ⟨fun h l e h2 => h _ _ ⟨l, e, h2, rfl, rfl⟩, fun h v H' ⟨l, e, h1, e1, e2⟩ => by rw [e1, e2]; exact h l e h1⟩
def rowFol : List D → Hp → Nm → Option (Prop × (D → Hp → Prop)) := fun args Hs nn =>
  match args with
  | [.agg a, .sl r1, .sl r2, .v (.int .i64 i)] => match netOf1 a, lsOf intOf1 r1, lsOf intOf1 r2 with
    | some n, some R, some Q => some (Hs = Hp.none ∧ FolPre n R Q i, FoR n Q i nn)
    | _, _, _ => Option.none
  | _ => Option.none
theorem tc_fol {T : Tbl} (hT : TblOk Try.prog T) : TblOk Try.prog (tc 131 rowFol T) :=
  tc_row f131_ok (fun args Hs nn pre R hr hp => by
    unfold rowFol at hr
    split at hr
    · split at hr
      · rename_i e1 e2 e3
        cases hr
        obtain ⟨rfl, hp⟩ := hp
        rw [netOf1_eq e1, lsOf_eq (fun r x => intOf1_eq) e2, lsOf_eq (fun r x => intOf1_eq) e3]
        exact ⟨⟨_, _, [], 0, 0, false, ⟨by simp, fun h => (by cases h)⟩, rfl, rfl⟩, follow_c _ _ _ _ hp nn⟩
      · cases hr
    · cases hr) hT
def TDv : Tbl := tc 100 (rowPu (selNP FckPre fun n p => di (fckI n p))) (tc 131 rowFol T0)
theorem TDv_ok : TblOk Try.prog TDv := tc_np f100_ok (fun n p h nn => rchk16_c n p h.1 h.2 nn) (tc_fol (T0_ok _))
structure DvInv (n : Net) (R Q : List Int) (O : List Pth) : Prop where
  rl : R.length = n.segs.length
  ql : Q.length = n.ports.length
  rb : ∀ r ∈ R, -(1000 + 33000 * (O.length : Int)) ≤ r ∧ r ≤ 1000 + 33000 * (O.length : Int)
  qb : ∀ q ∈ Q, -1000 ≤ q ∧ q ≤ 1000
  ol : O.length ≤ 64
  ok : ∀ x ∈ O, PthOk n x
def DvF (n : Net) (k : Nat) (l : List (Nat × D)) : List (Nat × D) := (2, .ptr (0, 2) 0 0 0) :: (7, .own (0, 21) 1 0 n.segs.length) :: (8, .own (0, 25) 1 0 n.ports.length) :: (9, .own (0, 1000) k 0 k) :: l
def DvH (n : Net) (R Q : List Int) (O : List Pth) : Hp := (((Hp.none.put (0, 1000) ⟨O.length, 4, O.map Pth.row⟩).put (0, 25) ⟨1, 1, Q.map iRow⟩).put (0, 21) ⟨1, 1, R.map iRow⟩).put (0, 2) ⟨0, 6, [netD n]⟩
def DvG (n : Net) (R Q : List Int) (O : List Pth) (x : Pth) : Hp := ((((Hp.none.put (0, 1000) ⟨O.length, 4, O.map Pth.row⟩).put (0, 25) ⟨1, 1, Q.map iRow⟩).put (0, 21) ⟨1, 1, R.map iRow⟩).put (0, 11) ⟨0, 4, [x.row]⟩).put (0, 2) ⟨0, 6, [netD n]⟩
theorem pth_pl (O : List Pth) : listB (fun r => listB D.plain r) (O.map Pth.row) = true := listB_m _ _ (fun x => rfl) O
theorem pth_ok (ks : List Nm) (H : Hp) (O : List Pth) : listB (fun r => listB (okK ks H) r) (O.map Pth.row) = true := listB_m _ _ (fun x => rfl) O
theorem rows_fz {α : Type} (f : α → List D) (h : ∀ x, rowV (f x) = true) (ks : List Nm) (H : Hp) (l : List α) : (l.map f).map (fun r => r.map (lendK ks H)) = l.map f := by
  rw [List.map_map]
  exact List.map_congr_left fun x _ => (rowV_ok (h x) ks H).2.2
theorem getD_setI (A : List Int) (i k : Nat) (v : Int) (h : i < A.length) : (A.set i v).getD k 0 = if i = k then v else A.getD k 0 := by
  rw [List.getD_eq_getElem?_getD, List.getD_eq_getElem?_getD, List.getElem?_set]
  split
  · rename_i e; subst e; simp [h]
  · rfl
theorem mem_seti {A : List Int} {i : Nat} {v : Int} {P : Int → Prop} (h : ∀ x ∈ A, P x) (hv : P v) : ∀ x ∈ A.set i v, P x := fun x hx => by
  rcases List.mem_or_eq_of_mem_set hx with h1 | h1
  · exact h x h1
  · rw [h1]; exact hv
set_option maxHeartbeats 16000000 in
theorem divide_c25 (n : Net) (p : Pln) (hz : FckPre n p) (hf : fckI n p = 0) (nn : Nm) : CallsA Try.prog 92 [n.enc, p.enc] Hp.none nn (DivR n) := by
  obtain ⟨code, h1, h2⟩ := c92_ok
  refine callsA_of TDv_ok mixed (N := fun t => (0, t)) Try.func92 h1 h2 r92_ok [] false js_nil js_nil' (by simp [Try.f92]) ?_
  have hn1 := netOf1_x n
  have hp1 := plnOf1_x p
  have hpv := fck0 hf
  have hv := hpv.net
  have hsl := hv.sl
  have hql := hv.ql
  have hrl := hpv.rl
  have hpl := hpv.pl
  have e1 : (∀ j ∈ p.rates, (iRow j).length = 1) = True := eq_true fun _ _ => rfl
  have e2 : (∀ j ∈ p.ports, (iRow j).length = 1) = True := eq_true fun _ _ => rfl
  have y1 : p.rates.length * 8 ≤ 140737488355328 := by omega
  have y2 : p.rates.length ≤ 4611686018427387904 := by omega
  have y3 : p.ports.length * 8 ≤ 140737488355328 := by omega
  have y4 : p.ports.length ≤ 4611686018427387904 := by omega
  simp (maxSteps:=500000) only [↓vp, vv, ↓reduceIte, simprocAttr, c92, c92_13, TDv, selNP, Net.enc, Pln.enc, netD, plnD, hn1, hp1, hz, hf, bne_self_eq_false, e1, e2, y1, y2, y3, y4]
  rw [vc_loop]
  have ini : DvInv n p.rates p.ports [] := ⟨hrl, hpl, fun r hr => by
    obtain ⟨k, hk⟩ := List.getElem?_of_mem hr
    have hl : k < p.rates.length := (List.getElem?_eq_some_iff.1 hk).1
    have hx : (n.segs[k]'(by omega), r) ∈ n.segs.zip p.rates := zip_of (List.getElem?_eq_getElem (by omega)) hk
    have := withB_of (hpv.rb _ hx)
    have hm : most (n.segs[k]'(by omega)) ≤ 1000 := by unfold most; split <;> omega
    dsimp only at this
    simp
    omega, hpv.pb, by simp, fun x hx => (by cases hx)⟩
  refine ⟨fun m st => ∃ (i : Nat) (R Q : List Int) (O : List Pth), i + m = n.ports.length ∧ DvInv n R Q O ∧ st = ⟨fr (DvF n O.length [(10, di i)]), DvH n R Q O⟩,
    ⟨n.ports.length, _, (weak_own 9 (0, 1000) 4 (by simp (maxSteps:=500000) only [↓vp, vv, ↓reduceIte, simprocAttr, ]) (by simp (maxSteps:=500000) only [↓vp, vv, ↓reduceIte, simprocAttr, ])).trans (weak_eq [] [(0, 2), (0, 21), (0, 25), (0, 1000)] (DvF n 0 [(10, di 0)]) (by simp (maxSteps:=500000) only [↓vp, vv, ↓reduceIte, simprocAttr, coverS, DvF, DvH, netD, iRow, Pth.row, hrl, hpl, List.map_nil, List.length_nil]) (by simp (maxSteps:=500000) only [↓vp, vv, ↓reduceIte, simprocAttr, refsF, DvF, DvH, netD, iRow, Pth.row, hrl, hpl, List.map_nil, List.length_nil]) (by simp (maxSteps:=500000) only [↓vp, vv, ↓reduceIte, simprocAttr, DvF, DvH, netD, iRow, Pth.row, hrl, hpl, List.map_nil, List.length_nil]) (by simp) (by simp (maxSteps:=500000) only [↓vp, vv, ↓reduceIte, simprocAttr, DvF, DvH, netD, iRow, Pth.row, hrl, hpl, List.map_nil, List.length_nil]; try rfl)), 0, p.rates, p.ports, [], by omega, ini, rfl⟩, ?_⟩
  rintro m st ⟨i, R, Q, O, him, hI, rfl⟩
  have hin := idx_nn i
  have wi := idx_next (j := i) (by omega)
  by_cases hi : i < n.ports.length
  · have hi' : (i : Int) < n.ports.length := by omega
    simp (maxSteps:=500000) only [↓vp, vv, ↓reduceIte, simprocAttr, c92_11, c92_10, DvF, DvH, netD, hi']
    rw [vc_loop]
    refine ⟨fun k st => ∃ (R Q : List Int) (O : List Pth), k = (Q.getD i 0).toNat ∧ DvInv n R Q O ∧ st = ⟨fr (DvF n O.length [(10, di i)]), DvH n R Q O⟩,
      ⟨_, _, (weak_eq [] [(0, 2), (0, 21), (0, 25), (0, 1000)] (DvF n O.length [(10, di i)]) (by simp (maxSteps:=500000) only [↓vp, vv, ↓reduceIte, simprocAttr, coverS, DvF, DvH, netD, iRow, Pth.row]) (by simp (maxSteps:=500000) only [↓vp, vv, ↓reduceIte, simprocAttr, refsF, DvF, DvH, netD, iRow, Pth.row]) (by simp (maxSteps:=500000) only [↓vp, vv, ↓reduceIte, simprocAttr, DvF, DvH, netD, iRow, Pth.row]) (by simp) (by simp (maxSteps:=500000) only [↓vp, vv, ↓reduceIte, simprocAttr, DvF, DvH, netD, iRow, Pth.row]; try rfl)), R, Q, O, rfl, hI, rfl⟩, ?_⟩
    clear hI R Q O
    rintro k st ⟨R, Q, O, hk, hI, rfl⟩
    have hQl := hI.ql
    have hRl := hI.rl
    have hOl := hI.ol
    have hiQ : i < Q.length := by omega
    have gq := int_at Q i hiQ
    have hqi := hI.qb _ (int_mem Q i hiQ)
    cases c1 : decide (0 < Q.getD i 0) with
    | false =>
      simp (maxSteps:=500000) only [↓vp, vv, ↓reduceIte, simprocAttr, c92_8, c92_9, DvF, DvH, netD, hi, hi', hin, hiQ, gq, c1, wi, hQl, Int.toNat_natCast]
      exact ⟨m - 1, _, by omega, (weak_eq [] [(0, 2), (0, 21), (0, 25), (0, 1000)] (DvF n O.length [(10, di (i + 1 : Nat))]) (by simp (maxSteps:=500000) only [↓vp, vv, ↓reduceIte, simprocAttr, coverS, DvF, DvH, netD, iRow, Pth.row, wi]) (by simp (maxSteps:=500000) only [↓vp, vv, ↓reduceIte, simprocAttr, refsF, DvF, DvH, netD, iRow, Pth.row, wi]) (by simp (maxSteps:=500000) only [↓vp, vv, ↓reduceIte, simprocAttr, DvF, DvH, netD, iRow, Pth.row, wi]) (by simp) (by simp (maxSteps:=500000) only [↓vp, vv, ↓reduceIte, simprocAttr, DvF, DvH, netD, iRow, Pth.row, wi]; try rfl)), i + 1, R, Q, O, by omega, hI, rfl⟩
    | true =>
      have hq0 : 0 < Q.getD i 0 := by simpa using c1
      have hfp : FolPre n R Q i := ⟨hv, hRl, hQl, fun r hr => by have := hI.rb r hr; omega, hI.qb, ⟨by omega, by omega⟩, by rw [Int.toNat_natCast]; exact hq0⟩
      have hR1 : lsOf intOf1 (R.map iRow) = some R := lsOf_map intOf1_row R
      have hQ1 : lsOf intOf1 (Q.map iRow) = some Q := lsOf_map intOf1_row Q
      have fR := fun w => flatRs_map tHop (fun _ => rfl) w
      have tR : (R.map iRow).take n.segs.length = R.map iRow := List.take_of_length_le (by simp; omega)
      have tQ : (Q.map iRow).take n.ports.length = Q.map iRow := List.take_of_length_le (by simp; omega)
      have lR : n.segs.length ≤ R.length := by omega
      have lQ : n.ports.length ≤ Q.length := by omega
      have pI : ∀ A : List Int, (∀ j ∈ A, ∀ d ∈ iRow j, d.plain = true) = True := fun A => eq_true fun _ _ d hd => by rw [List.mem_singleton.1 hd]; rfl
      simp (maxSteps:=500000) only [↓vp, vv, ↓reduceIte, simprocAttr, c92_8, c92_7, TDv, rowFol, FoR_all, DvF, DvH, netD, hi, hi', hin, hiQ, gq, c1, hQl, hn1, hR1, hQ1, hfp, fR, tR, tQ, lR, lQ, pI, Int.toNat_natCast]
      intro w o rt ok hfo
      have ra := fun A => rows_pl iRow (fun _ => rfl) A
      have rb := fun ks H A => rows_ok iRow (fun _ => rfl) ks H A
      have rc := pth_pl O
      have rd := fun ks H => pth_ok ks H O
      have re := fun A => rows_pl tHop (fun _ => rfl) A
      have rf := fun ks H A => rows_ok tHop (fun _ => rfl) ks H A
      have rg := fun ks H A => rows_fz iRow (fun _ => rfl) ks H A
      have rh := fun ks H => rows_fz Pth.row (fun _ => rfl) ks H O
      have t3 : (w.map tHop).take w.length = w.map tHop := List.take_of_length_le (by simp)
      refine vc_wk ((weak_eq [] [(0, 2), (0, 11), (0, 21), (0, 25), (0, 45), (0, 1000)] (DvF n O.length [(10, di i), (11, .ptr (0, 11) 0 0 0), (12, db ok)])
        (H' := hp [((0, 2), ⟨0, 6, [netD n]⟩), ((0, 11), ⟨0, 4, [[di i, di o, .own (0, 45) w.length 0 w.length, di rt]]⟩), ((0, 21), ⟨1, 1, R.map iRow⟩), ((0, 25), ⟨1, 1, Q.map iRow⟩), ((0, 45), ⟨w.length, 2, w.map tHop⟩), ((0, 1000), ⟨O.length, 4, O.map Pth.row⟩)])
        (by simp (maxSteps:=500000) only [↓vp, vv, ↓reduceIte, simprocAttr, coverS, DvF]) (by simp (maxSteps:=500000) only [↓vp, vv, ↓reduceIte, simprocAttr, refsF, DvF]) (by simp (maxSteps:=500000) only [↓vp, vv, ↓reduceIte, simprocAttr, iRow, tHop, Pth.row]) (by simp) (by simp (maxSteps:=500000) only [↓vp, vv, ↓reduceIte, simprocAttr, hp_cons, hp_nil, netD]; try rfl)).trans
        (weak_fz [(0, 45)] [(0, 2), (0, 11), (0, 21), (0, 25), (0, 1000)] (l := (DvF n O.length [(10, di i), (11, .ptr (0, 11) 0 0 0), (12, db ok)])) (h := _) (l' := (DvF n O.length [(10, di i), (11, .ptr (0, 11) 0 0 0), (12, db ok)])) (H' := (DvG n R Q O ⟨i, o, w, rt⟩)) (by simp (maxSteps:=500000) only [↓vp, vv, ↓reduceIte, simprocAttr, vz, listB, okKd, okK, lendKd, lendK, lendOk1B, frzF, Option.map_some, cond_true, cond_false, decide_true, decide_false, Bool.and_self, DvF, DvG, Pth.row, iRow, netD, ra, rb, rc, rd, re, rf, rg, rh, t3]) (by simp (maxSteps:=500000) only [↓vp, vv, ↓reduceIte, simprocAttr, vz, listB, okKd, okK, lendKd, lendK, lendOk1B, frzF, Option.map_some, cond_true, cond_false, decide_true, decide_false, Bool.and_self, DvF, DvG, Pth.row, iRow, netD, ra, rb, rc, rd, re, rf, rg, rh, t3]) (by simp (maxSteps:=500000) only [↓vp, vv, ↓reduceIte, simprocAttr, vz, listB, okKd, okK, lendKd, lendK, lendOk1B, frzF, Option.map_some, cond_true, cond_false, decide_true, decide_false, Bool.and_self, DvF, DvG, Pth.row, iRow, netD, ra, rb, rc, rd, re, rf, rg, rh, t3]; try rfl) (by simp (maxSteps:=500000) only [↓vp, vv, ↓reduceIte, simprocAttr, vz, listB, okKd, okK, lendKd, lendK, lendOk1B, frzF, Option.map_some, cond_true, cond_false, decide_true, decide_false, Bool.and_self, DvF, DvG, Pth.row, iRow, netD, ra, rb, rc, rd, re, rf, rg, rh, t3]; try rfl) (by simp (maxSteps:=500000) only [↓vp, vv, ↓reduceIte, simprocAttr, vz, listB, okKd, okK, lendKd, lendK, lendOk1B, frzF, Option.map_some, cond_true, cond_false, decide_true, decide_false, Bool.and_self, refsF, DvF, DvG, Pth.row, iRow, netD, ra, rb, rc, rd, re, rf, rg, rh, t3]) (by simp (maxSteps:=500000) only [↓vp, vv, ↓reduceIte, simprocAttr, vz, listB, okKd, okK, lendKd, lendK, lendOk1B, frzF, Option.map_some, cond_true, cond_false, decide_true, decide_false, Bool.and_self, DvF, DvG, Pth.row, iRow, netD, ra, rb, rc, rd, re, rf, rg, rh, t3]) (by simp))) ?_
      cases ok with
      | false =>
        simp (maxSteps:=500000) only [↓vp, vv, ↓reduceIte, simprocAttr, c92_6, r92, DvF, DvG, Pth.row, netD]
        exact ⟨[], 23, ⟨by simp, fun x hx => (by cases hx)⟩, rfl, rfl⟩
      | true =>
        obtain ⟨hg1, hg2, hg3, hg4, hg5⟩ := hfo.g rfl
        rw [Int.toNat_natCast] at hg4
        cases c2 : ((O.length : Int) == 64) with
        | true =>
          simp (maxSteps:=500000) only [↓vp, vv, ↓reduceIte, simprocAttr, c92_6, r92, DvF, DvG, Pth.row, netD, c2]
          exact ⟨[], 23, ⟨by simp, fun x hx => (by cases hx)⟩, rfl, rfl⟩
        | false =>
          have hO64 : O.length ≠ 64 := fun e => by rw [e] at c2; cases c2
          cases c3 : decide ((32 : Int) < w.length) with
          | true =>
            simp (maxSteps:=500000) only [↓vp, vv, ↓reduceIte, simprocAttr, c92_6, r92, DvF, DvG, Pth.row, netD, c2, c3]
            exact ⟨[], 23, ⟨by simp, fun x hx => (by cases hx)⟩, rfl, rfl⟩
          | false =>
            have hw32 : w.length ≤ 32 := by have := of_decide_eq_false c3; omega
            have oQ : o.toNat < Q.length := by omega
            have hqo := hI.qb _ (int_mem Q o.toNat oQ)
            obtain ⟨on, rfl⟩ : ∃ on : Nat, o = on := ⟨o.toNat, by omega⟩
            rw [Int.toNat_natCast] at oQ hqo hg5
            have hne : i ≠ on := fun e => by subst e; omega
            have hon := idx_nn on
            have onP : on < n.ports.length := by omega
            have oQ' : (on : Int) < n.ports.length := by omega
            have w1 : IntKind.i64.wrap (Q.getD i 0 - rt) = Q.getD i 0 - rt := wrap_i (by omega)
            have s1 : (Q.map iRow).set i [di (Q.getD i 0 - rt)] = (Q.set i (Q.getD i 0 - rt)).map iRow := (List.map_set ..).symm
            have l1 : (Q.set i (Q.getD i 0 - rt)).length = Q.length := List.length_set
            have g2 := int_at (Q.set i (Q.getD i 0 - rt)) on (by omega)
            rw [getD_setI _ _ _ _ hiQ, if_neg hne] at g2
            have w2 : IntKind.i64.wrap (Q.getD on 0 + rt) = Q.getD on 0 + rt := wrap_i (by omega)
            have s2 : ((Q.set i (Q.getD i 0 - rt)).map iRow).set on [di (Q.getD on 0 + rt)] = ((Q.set i (Q.getD i 0 - rt)).set on (Q.getD on 0 + rt)).map iRow := (List.map_set ..).symm
            have hQ2 : ∀ q ∈ (Q.set i (Q.getD i 0 - rt)).set on (Q.getD on 0 + rt), -1000 ≤ q ∧ q ≤ 1000 := mem_seti (mem_seti hI.qb (by omega)) (by omega)
            have l2 : ((Q.set i (Q.getD i 0 - rt)).set on (Q.getD on 0 + rt)).length = n.ports.length := by rw [List.length_set, List.length_set, hQl]
            have hmes : ((Q.set i (Q.getD i 0 - rt)).set on (Q.getD on 0 + rt)).getD i 0 = Q.getD i 0 - rt := by
              rw [getD_setI _ _ _ _ (by omega), if_neg (fun e => hne e.symm), getD_setI _ _ _ _ hiQ, if_pos rfl]
            generalize (Q.set i (Q.getD i 0 - rt)).set on (Q.getD on 0 + rt) = Q2 at *
            simp (maxSteps:=500000) only [↓vp, vv, ↓reduceIte, simprocAttr, c92_6, c92_5, DvF, DvG, Pth.row, netD, c2, c3, gq, hi', hin, hi, hiQ, hQl, w1, s1, l1, g2, hon, oQ', onP, oQ, w2, s2, Int.toNat_natCast]
            have hin2 := chn_in hg1
            have hrt : rt ≤ 1000 := by omega
            rw [vc_loop]
            refine ⟨fun m' st => ∃ (j : Nat) (R' : List Int), j + m' = w.length ∧ R'.length = n.segs.length ∧ (∀ r ∈ R', -(1000 + 33000 * (O.length : Int) + 1000 * (j : Int)) ≤ r ∧ r ≤ 1000 + 33000 * (O.length : Int) + 1000 * (j : Int)) ∧ st = ⟨fr (DvF n O.length [(10, di i), (11, .ptr (0, 11) 0 0 0), (13, di (j : Nat))]), DvG n R' Q2 O ⟨i, on, w, rt⟩⟩,
              ⟨w.length, _, (weak_eq [] [(0, 2), (0, 11), (0, 21), (0, 25), (0, 1000)] (DvF n O.length [(10, di i), (11, .ptr (0, 11) 0 0 0), (13, di 0)]) (by simp (maxSteps:=500000) only [↓vp, vv, ↓reduceIte, simprocAttr, coverS, DvF, DvG, netD, iRow, Pth.row]) (by simp (maxSteps:=500000) only [↓vp, vv, ↓reduceIte, simprocAttr, refsF, DvF, DvG, netD, iRow, Pth.row]) (by simp (maxSteps:=500000) only [↓vp, vv, ↓reduceIte, simprocAttr, DvF, DvG, netD, iRow, Pth.row]) (by simp) (by simp (maxSteps:=500000) only [↓vp, vv, ↓reduceIte, simprocAttr, DvF, DvG, netD, iRow, Pth.row]; try rfl)), 0, R, by omega, hRl, (fun r hr => by have := hI.rb r hr; omega), rfl⟩, ?_⟩
            rintro m' st ⟨j, R', hjm, hRl', hRb', rfl⟩
            have hjn := idx_nn j
            have wj := idx_next (j := j) (by omega)
            by_cases hj : j < w.length
            · have hj' : (j : Int) < w.length := by omega
              have gw := tHop_g w j hj
              obtain ⟨u1, u2⟩ := hin2 _ (List.getElem_mem hj)
              generalize w[j] = y at gw u1 u2
              obtain ⟨q, b⟩ := y
              dsimp only at u1 u2
              have q3 : q.toNat < n.segs.length := by omega
              have gr := int_at R' q.toNat (by omega)
              have hrq := hRb' _ (int_mem R' q.toNat (by omega))
              generalize hrr : R'.getD q.toNat 0 = rr at *
              have w3 : IntKind.i64.wrap (rr - rt) = rr - rt := wrap_i (by omega)
              have w4 : IntKind.i64.wrap (rr + rt) = rr + rt := wrap_i (by omega)
              have s3 : ∀ v, (R'.map iRow).set q.toNat [di v] = (R'.set q.toNat v).map iRow := fun v => (List.map_set ..).symm
              cases b
              · simp (maxSteps:=500000) only [↓vp, vv, ↓reduceIte, simprocAttr, c92_3, c92_2, c92_1, DvF, DvG, Pth.row, netD, hj', hjn, gw, tHop, u1, u2, q3, gr, hRl', w3, s3, wj, Int.toNat_natCast]
                exact ⟨m' - 1, _, by omega, (weak_eq [] [(0, 2), (0, 11), (0, 21), (0, 25), (0, 1000)] (DvF n O.length [(10, di i), (11, .ptr (0, 11) 0 0 0), (13, di (j + 1 : Nat))]) (by simp (maxSteps:=500000) only [↓vp, vv, ↓reduceIte, simprocAttr, coverS, DvF, DvG, netD, iRow, Pth.row, wj]) (by simp (maxSteps:=500000) only [↓vp, vv, ↓reduceIte, simprocAttr, refsF, DvF, DvG, netD, iRow, Pth.row, wj]) (by simp (maxSteps:=500000) only [↓vp, vv, ↓reduceIte, simprocAttr, DvF, DvG, netD, iRow, Pth.row, wj]) (by simp) (by simp (maxSteps:=500000) only [↓vp, vv, ↓reduceIte, simprocAttr, DvF, DvG, netD, iRow, Pth.row, wj]; try rfl)), j + 1, R'.set q.toNat (rr - rt), by omega, by rw [List.length_set]; exact hRl', mem_seti (fun r hr => by have := hRb' r hr; omega) (by omega), rfl⟩
              · simp (maxSteps:=500000) only [↓vp, vv, ↓reduceIte, simprocAttr, c92_3, c92_2, c92_1, DvF, DvG, Pth.row, netD, hj', hjn, gw, tHop, u1, u2, q3, gr, hRl', w4, s3, wj, Int.toNat_natCast]
                exact ⟨m' - 1, _, by omega, (weak_eq [] [(0, 2), (0, 11), (0, 21), (0, 25), (0, 1000)] (DvF n O.length [(10, di i), (11, .ptr (0, 11) 0 0 0), (13, di (j + 1 : Nat))]) (by simp (maxSteps:=500000) only [↓vp, vv, ↓reduceIte, simprocAttr, coverS, DvF, DvG, netD, iRow, Pth.row, wj]) (by simp (maxSteps:=500000) only [↓vp, vv, ↓reduceIte, simprocAttr, refsF, DvF, DvG, netD, iRow, Pth.row, wj]) (by simp (maxSteps:=500000) only [↓vp, vv, ↓reduceIte, simprocAttr, DvF, DvG, netD, iRow, Pth.row, wj]) (by simp) (by simp (maxSteps:=500000) only [↓vp, vv, ↓reduceIte, simprocAttr, DvF, DvG, netD, iRow, Pth.row, wj]; try rfl)), j + 1, R'.set q.toNat (rr + rt), by omega, by rw [List.length_set]; exact hRl', mem_seti (fun r hr => by have := hRb' r hr; omega) (by omega), rfl⟩
            · have hj' : ¬ (j : Int) < w.length := by omega
              have y1 : (O.length + 1) * 48 ≤ 140737488355328 := by omega
              have y2 : O.length + 1 ≤ 4611686018427387904 := by omega
              simp (maxSteps:=500000) only [↓vp, vv, ↓reduceIte, simprocAttr, c92_3, c92_4, DvF, DvG, Pth.row, netD, hj', y1, y2]
              exact ⟨_, _, by omega, (weak_eq [] [(0, 2), (0, 21), (0, 25), (0, 1000)] (DvF n (O ++ [(⟨i, on, w, rt⟩ : Pth)]).length [(10, di i)]) (by simp (maxSteps:=500000) only [↓vp, vv, ↓reduceIte, simprocAttr, coverS, DvF, DvH, netD, iRow, Pth.row, List.map_append, List.map_cons, List.map_nil, List.length_append, List.length_cons, List.length_nil]) (by simp (maxSteps:=500000) only [↓vp, vv, ↓reduceIte, simprocAttr, refsF, DvF, DvH, netD, iRow, Pth.row, List.map_append, List.map_cons, List.map_nil, List.length_append, List.length_cons, List.length_nil]) (by simp (maxSteps:=500000) only [↓vp, vv, ↓reduceIte, simprocAttr, DvF, DvH, netD, iRow, Pth.row, List.map_append, List.map_cons, List.map_nil, List.length_append, List.length_cons, List.length_nil]) (by simp) (by simp (maxSteps:=500000) only [↓vp, vv, ↓reduceIte, simprocAttr, DvF, DvH, netD, iRow, Pth.row, List.map_append, List.map_cons, List.map_nil, List.length_append, List.length_cons, List.length_nil]; try rfl)), R', Q2, O ++ [⟨i, on, w, rt⟩], rfl, ⟨hRl', l2, (fun r hr => by have := hRb' r hr; rw [List.length_append]; simp; omega), hQ2, by rw [List.length_append]; simp; omega, fun x hx => by
                rcases List.mem_append.1 hx with h | h
                · exact hI.ok x h
                · rw [List.mem_singleton.1 h]; exact ⟨hg1, hw32⟩⟩, rfl⟩
  · have hie : i = n.ports.length := by omega
    have tk : (O.map Pth.row).take O.length = O.map Pth.row := List.take_of_length_le (by simp)
    simp (maxSteps:=500000) only [↓vp, vv, ↓reduceIte, simprocAttr, c92_11, c92_12, r92, DvF, DvH, netD, hie, Int.lt_irrefl, tk]
    exact ⟨fun j _ d hd => (by
      rcases List.mem_cons.1 hd with rfl | hd
      · rfl
      · rcases List.mem_cons.1 hd with rfl | hd
        · rfl
        · rcases List.mem_cons.1 hd with rfl | hd
          · rfl
          · rw [List.mem_singleton.1 hd]; rfl), O, 0, ⟨hI.ol, hI.ok⟩, rfl, rfl⟩
def pthOf1 : List D → Option Pth
  | [.v (.int .i64 a), .v (.int .i64 b), .sl rows, .v (.int .i64 r)] => match lsOf tHopOf1 rows with
    | some w => some ⟨a, b, w, r⟩
    | Option.none => Option.none
  | _ => Option.none
theorem pthOf1_row (x : Pth) : pthOf1 x.row = some x := by
  have e := lsOf_map tHopOf1_row x.way
  unfold Pth.row pthOf1
  simp only [e]
theorem pthOf1_eq {r : List D} {x : Pth} (e : pthOf1 r = some x) : r = x.row := by
  unfold pthOf1 at e
  split at e
  · split at e
    · rename_i e1
      cases e
      rw [lsOf_eq (fun r x => tHopOf1_eq) e1]
      rfl
    · cases e
  · cases e
set_option maxHeartbeats 4000000 in
theorem pcopy_c (x : Pth) (h : x.way.length ≤ 1000000) (nn : Nm) : CallsA Try.prog 93 [.agg x.row] Hp.none nn (Pu (.agg x.row) Hp.none) := by
  obtain ⟨code, h1, h2⟩ := c93_ok
  refine callsA_of (T0_ok _) mixed (N := fun t => (0, t)) Try.func93 h1 h2 r93_ok [] false js_nil js_nil' (by simp [Try.f93]) ?_
  have y1 : x.way.length * 16 ≤ 140737488355328 := by omega
  have y2 : x.way.length ≤ 4611686018427387904 := by omega
  have e1 : (∀ j ∈ x.way, (tHop j).length = 2) = True := eq_true fun _ _ => rfl
  have tk : (x.way.map tHop).take x.way.length = x.way.map tHop := List.take_of_length_le (by simp)
  simp (maxSteps:=500000) only [↓vp, vv, ↓reduceIte, simprocAttr, c93, r93, r93, Pth.row, y1, y2, e1, tk, Pu]
  exact fun j _ => tHop_pl j
set_option maxHeartbeats 4000000 in
theorem tcopy_c (t : Tol) (h : t.way.length ≤ 1000000) (nn : Nm) : CallsA Try.prog 99 [t.enc] Hp.none nn (Pu t.enc Hp.none) := by
  obtain ⟨code, h1, h2⟩ := c99_ok
  refine callsA_of (T0_ok _) mixed (N := fun t => (0, t)) Try.func99 h1 h2 r99_ok [] false js_nil js_nil' (by simp [Try.f99]) ?_
  have y1 : t.way.length * 16 ≤ 140737488355328 := by omega
  have y2 : t.way.length ≤ 4611686018427387904 := by omega
  have e1 : (∀ j ∈ t.way, (tHop j).length = 2) = True := eq_true fun _ _ => rfl
  have tk : (t.way.map tHop).take t.way.length = t.way.map tHop := List.take_of_length_le (by simp)
  simp (maxSteps:=500000) only [↓vp, vv, ↓reduceIte, simprocAttr, c99, r99, r99, Tol.enc, Tol.row, y1, y2, e1, tk, Pu]
  exact fun j _ => tHop_pl j
def selFw32 : List D → Option (Prop × D)
  | [.sl L] => some (True, db (decide ((L.length : Int) ≤ 400)))
  | _ => Option.none
theorem few32_c (L : List (List D)) (nn : Nm) : CallsA Try.prog 22 [.sl L] Hp.none nn (Pu (db (decide ((L.length : Int) ≤ 400))) Hp.none) := by
  obtain ⟨code, h1, h2⟩ := c22_ok
  refine callsA_of (T0_ok _) mixed (N := fun t => (0, t)) Try.func22 h1 h2 r22_ok [] false js_nil js_nil' (by simp [Try.f22]) ?_
  simp (maxSteps:=500000) only [↓vp, vv, ↓reduceIte, simprocAttr, c22, r22, r22, Pu]
set_option maxHeartbeats 4000000 in
theorem sway_c (w : List (Int × Bool)) (h : w.length ≤ 1000000) (nn : Nm) : CallsA Try.prog 103 [.sl (w.map tHop), .sl (w.map tHop)] Hp.none nn (Pu (db true) Hp.none) := by
  obtain ⟨code, h1, h2⟩ := c103_ok
  refine callsA_of (T0_ok _) mixed (N := fun t => (0, t)) Try.func103 h1 h2 r103_ok [] false js_nil js_nil' (by simp [Try.f103]) ?_
  simp (maxSteps:=500000) only [↓vp, vv, ↓reduceIte, simprocAttr, c103, c103_5, bne_self_eq_false]
  refine rng_loop w.length (fun j => ⟨fr [(0, .sl (w.map tHop)), (1, .sl (w.map tHop)), (5, di (j : Nat))], Hp.none⟩) (fun _ => True) (weak0 (by simp (maxSteps:=500000) only [↓vp, vv, ↓reduceIte, simprocAttr, coverS]) (by simp (maxSteps:=500000) only [↓vp, vv, ↓reduceIte, simprocAttr, refsF])) trivial (fun j hj _ => ?_) (fun _ => ?_)
  · have hj' : (j : Int) < w.length := by omega
    have hjn := idx_nn j
    have w1 := idx_next (j := j) (by omega)
    have g := tHop_g w j hj
    generalize w[j] = y at g
    obtain ⟨k, b⟩ := y
    have hb : (k == k) = true := beq_self_eq_true k
    have hb2 : (b == b) = true := beq_self_eq_true b
    simp (maxSteps:=500000) only [↓vp, vv, ↓reduceIte, simprocAttr, c103, r103, c103_1, c103_2, c103_3, c103_4, c103_5, hj', hjn, g, tHop, eqL, eqOne, hb, hb2, w1, Int.toNat_natCast]
    exact rng_next hj (weak0 (by simp (maxSteps:=500000) only [↓vp, vv, ↓reduceIte, simprocAttr, coverS, w1]) (by simp (maxSteps:=500000) only [↓vp, vv, ↓reduceIte, simprocAttr, refsF])) trivial
  · simp (maxSteps:=500000) only [↓vp, vv, ↓reduceIte, simprocAttr, c103, r103, c103_1, c103_2, c103_3, c103_4, c103_5, r103, Int.lt_irrefl, Pu]
def selSw : List D → Option (Prop × D)
  | [.sl r, .sl s] => match lsOf tHopOf1 r, lsOf tHopOf1 s with
    | some a, some b => some (a = b ∧ a.length ≤ 1000000, db true)
    | _, _ => Option.none
  | _ => Option.none
theorem tc_sw {f : FuncId} {T : Tbl} (hf : fnOk Try.prog f = true) (h : ∀ w : List (Int × Bool), w.length ≤ 1000000 → ∀ nn, CallsA Try.prog f [.sl (w.map tHop), .sl (w.map tHop)] Hp.none nn (Pu (db true) Hp.none)) (hT : TblOk Try.prog T) : TblOk Try.prog (tc f (rowPu selSw) T) :=
  tc_pu hf (fun args pre d hs hp nn => by
    unfold selSw at hs
    split at hs
    · split at hs
      · rename_i e1 e2
        cases hs
        obtain ⟨rfl, hp⟩ := hp
        rw [lsOf_eq (fun r x => tHopOf1_eq) e1, lsOf_eq (fun r x => tHopOf1_eq) e2]
        exact h _ hp nn
      · cases hs
    · cases hs) hT
set_option maxHeartbeats 4000000 in
theorem tsame_c (l : List Tol) (h : l.length ≤ 1000000) (hw : ∀ t ∈ l, t.way.length ≤ 1000000) (nn : Nm) : CallsA Try.prog 45 [.sl (l.map Tol.row), .sl (l.map Tol.row)] Hp.none nn (Pu (db true) Hp.none) := by
  obtain ⟨code, h1, h2⟩ := c45_ok
  refine callsA_of (tc_sw f103_ok sway_c (T0_ok _)) mixed (N := fun t => (0, t)) Try.func45 h1 h2 r45_ok [] false js_nil js_nil' (by simp [Try.f45]) ?_
  simp (maxSteps:=500000) only [↓vp, vv, ↓reduceIte, simprocAttr, c45, c45_5, bne_self_eq_false]
  refine rng_loop l.length (fun j => ⟨fr [(0, .sl (l.map Tol.row)), (1, .sl (l.map Tol.row)), (5, di (j : Nat))], Hp.none⟩) (fun _ => True) (weak0 (by simp (maxSteps:=500000) only [↓vp, vv, ↓reduceIte, simprocAttr, coverS]) (by simp (maxSteps:=500000) only [↓vp, vv, ↓reduceIte, simprocAttr, refsF])) trivial (fun j hj _ => ?_) (fun _ => ?_)
  · have hj' : (j : Int) < l.length := by omega
    have hjn := idx_nn j
    have w1 := idx_next (j := j) (by omega)
    have g := tolRow_g l j hj
    have hwj := hw _ (List.getElem_mem hj)
    generalize l[j] = t at g hwj
    have hh : lsOf tHopOf1 (t.way.map tHop) = some t.way := lsOf_map tHopOf1_row t.way
    simp (maxSteps:=500000) only [↓vp, vv, ↓reduceIte, simprocAttr, c45, r45, c45_1, c45_2, c45_3, c45_4, c45_5, selSw, hj', hjn, g, Tol.row, hh, hwj, bne_self_eq_false, w1, Int.toNat_natCast]
    exact rng_next hj (weak0 (by simp (maxSteps:=500000) only [↓vp, vv, ↓reduceIte, simprocAttr, coverS, w1]) (by simp (maxSteps:=500000) only [↓vp, vv, ↓reduceIte, simprocAttr, refsF])) trivial
  · simp (maxSteps:=500000) only [↓vp, vv, ↓reduceIte, simprocAttr, c45, r45, c45_1, c45_2, c45_3, c45_4, c45_5, r45, Int.lt_irrefl, Pu]
def ltT (a b : Tol) : Bool := if decide (a.hop < b.hop) = true then true else if (a.hop == b.hop) = true then decide (a.pos < b.pos) else false
def WayOk (n : Net) (w : List (Int × Bool)) : Prop := w = [] ∨ ((1 ≤ w.length ∧ w.length ≤ 32) ∧ chnB n (-1) w = true)
def rowDiv : List D → Hp → Nm → Option (Prop × (D → Hp → Prop)) := fun args Hs nn =>
  match args with
  | [.agg a, .agg b] => match netOf1 a, plnOf1 b with
    | some n, some p => some (Hs = Hp.none ∧ FckPre n p ∧ fckI n p = 0, DivR n)
    | _, _ => Option.none
  | _ => Option.none
theorem tc_div {T : Tbl} (hT : TblOk Try.prog T) : TblOk Try.prog (tc 92 rowDiv T) :=
  tc_row f92_ok (fun args Hs nn pre R hr hp => by
    unfold rowDiv at hr
    split at hr
    · split at hr
      · rename_i e1 e2
        cases hr
        obtain ⟨rfl, hz, hf⟩ := hp
        rw [netOf1_eq e1, plnOf1_eq e2]
        exact ⟨⟨_, _, [], 0, ⟨by simp, fun x hx => (by cases hx)⟩, rfl, rfl⟩, divide_c25 _ _ hz hf nn⟩
      · cases hr
    · cases hr) hT
def selPc : List D → Option (Prop × D)
  | [.agg a] => match pthOf1 a with
    | some x => some (x.way.length ≤ 1000000, .agg x.row)
    | Option.none => Option.none
  | _ => Option.none
def TWa : Tbl := tc 33 (rowSrc selPlan Pln.enc) (tc 92 rowDiv (tc 93 (rowPu selPc) T1))
theorem TWa_ok : TblOk Try.prog TWa := tc_plan (tc_div (tc_pu f93_ok (fun args pre d hs hp nn => by
  unfold selPc at hs
  split at hs
  · split at hs
    · rename_i e1
      cases hs
      rw [pthOf1_eq e1]
      exact pcopy_c _ hp nn
    · cases hs
  · cases hs) T1_ok))
theorem way_one {n : Net} {k : Int} (h : 0 ≤ k ∧ k < n.segs.length) : WayOk n [(k, false)] := by
  refine .inr ⟨⟨by simp, by simp⟩, ?_⟩
  exact chn_add (w := []) (a := -1) (h := (k, false)) h rfl (.inl (by unfold endE; omega))
set_option maxHeartbeats 8000000 in
theorem way32_c (n : Net) (hn : NetOk n) : SrcC Try.prog 34 [n.enc] (WayOk n) (fun w => .sl (w.map tHop)) := by
  intro i L at' nn ho
  obtain ⟨code, h1, h2⟩ := c34_ok
  refine callsA_of TWa_ok mixed (N := fun t => (i.1 + 1, t)) Try.func34 h1 h2 r34_ok [i] false js_one js_one' (by simp [Try.f34]) ?_
  have hck := check_ok hn
  have hv := check0 hck
  have hpp := ports1 hn
  have hsl := hn.slen
  have hnl := hn.nlen
  have hn1 := netOf1_x n
  simp (maxSteps:=500000) only [↓vp, vv, ↓reduceIte, simprocAttr, c34, TWa, T1, selPlan, ho, Net.enc, netD, hn1, hv, hpp]
  intro a1 p hp
  have hz := plan_sz hn hp
  have f0 := plan0 hck hp
  have hp1 := plnOf1_x p
  simp (maxSteps:=500000) only [↓vp, vv, ↓reduceIte, simprocAttr, TWa, T1, rowDiv, DivR_all, Pln.enc, plnD, netD, hn1, hp1, hz, f0]
  intro l e hl
  have o1 := a1.2
  obtain ⟨hl64, hlo⟩ := hl
  cases c1 : ((l.length : Int) == 0) with
  | true =>
    have hi1 : InI n.segs.length := by unfold InI; omega
    simp (maxSteps:=500000) only [↓vp, vv, ↓reduceIte, simprocAttr, TWa, T1, selI, r34, o1, hi1, netD, c1]
    intro a2 x hx
    have hx0 := hx.1
    have hx1 := hx.2.1 (by omega)
    exact ⟨a2.1, [(x, false)], a2.2, way_one ⟨hx0, hx1⟩, rfl, rfl⟩
  | false =>
    have hl0 : 1 ≤ l.length := by
      have : ¬ (l.length : Int) = 0 := by simpa using c1
      omega
    have hi1 : InI l.length := by unfold InI; omega
    simp (maxSteps:=500000) only [↓vp, vv, ↓reduceIte, simprocAttr, c34_1, TWa, T1, selI, o1, hi1, netD, c1]
    intro a2 x hx
    have hx0 := hx.1
    have hx1 := hx.2.1 (by omega)
    have hx2 : x.toNat < l.length := by omega
    have g : (l.map Pth.row).getD x.toNat [] = (l[x.toNat]).row := getD_map Pth.row l x.toNat hx2
    have hy := hlo _ (List.getElem_mem hx2)
    generalize l[x.toNat] = y at g hy
    have hy1 : pthOf1 [di y.inn, di y.out, .sl (y.way.map tHop), di y.rate] = some y := pthOf1_row y
    obtain ⟨hy2, hy3⟩ := hy
    have hy4 : y.way.length ≤ 1000000 := by omega
    simp (maxSteps:=500000) only [↓vp, vv, ↓reduceIte, simprocAttr, TWa, T1, selPc, r34, hx0, hx1, g, Pth.row, hy1, hy4, netD]
    refine ⟨a2.1, y.way, a2.2, ?_, rfl, rfl⟩
    rcases Nat.eq_zero_or_pos y.way.length with h0 | h0
    · exact .inl (List.length_eq_zero_iff.1 h0)
    · exact .inr ⟨⟨h0, hy3⟩, hy2⟩
def selWay : List D → Option (Prop × (List (Int × Bool) → Prop))
  | [.agg r] => match netOf1 r with
    | some n => some (NetOk n, WayOk n)
    | Option.none => Option.none
  | _ => Option.none
theorem tc_way32 {T : Tbl} (hT : TblOk Try.prog T) : TblOk Try.prog (tc 34 (rowSrc selWay (fun w => .sl (w.map tHop))) T) :=
  tc_src f34_ok (fun args pre post h hp => by
    unfold selWay at h
    split at h
    · split at h
      · rename_i n e1
        cases h
        rw [netOf1_eq e1]
        exact ⟨⟨[], .inl rfl⟩, way32_c n hp⟩
      · cases h
    · cases h) hT
def selSame : List D → Option (Prop × D)
  | [.sl r, .sl s] => match lsOf tolOf1 r, lsOf tolOf1 s with
    | some a, some b => some (a = b ∧ a.length ≤ 1000000 ∧ ∀ t ∈ a, t.way.length ≤ 1000000, db true)
    | _, _ => Option.none
  | _ => Option.none
end Go.Proofs.Ytadjhfjiimgddaa
