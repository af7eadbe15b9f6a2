
/- TroubleParts: the walk. -/
import Derived.Test.YtiaenojpbiahgaaTp2
import Derived.Test.YtiaenojpbiahgaaBridge
namespace Go.Proofs.Ytiaenojpbiahgaa
open Go
set_option linter.unusedVariables false
set_option linter.unusedSimpArgs false
set_option maxRecDepth 100000

def selTck : List D → Option (Prop × D)
  | [.agg r, .sl rows] => match netOf1 r, troOf rows with
    | some n, some l => some (NetSz n ∧ l.length ≤ 1000000, di (chkT n l))
    | _, _ => Option.none
  | _ => Option.none
def TT6 : Tbl := tc 24 (rowPu selTck) TT5
theorem TT6_ok : TblOk Try.prog TT6 := by
  refine tc_pu f24_ok (fun args pre d h hp nn => ?_) TT5_ok
  unfold selTck at h
  split at h
  · split at h
    · rename_i e1 e2
      cases h
      rw [netOf1_eq e1, troOf_eq e2]
      exact tcheck_c _ hp.1 _ hp.2 nn
    · cases h
  · cases h
theorem netOk_sz {n : Net} (h : NetOk n) : NetSz n := by
  have h1 := h.nlen
  have h2 := h.slen
  have h3 := h.ports.len
  have h4 := h.sts.len
  refine ⟨by omega, by omega, by omega, by omega, fun s hs => ?_⟩
  obtain ⟨j, a, b, _, _, _, hk, _⟩ := h.segs.mem hs
  have := hk.len
  omega
def TPFr (x y : List Tro) (t : Int) (l : List (Nat × D)) : List (Nat × D) := (7, .sl (x.map Tro.row)) :: (8, .sl (y.map Tro.row)) :: (12, di t) :: l
set_option maxHeartbeats 8000000 in
theorem TP_o (n : Net) (hz : NetSz n) (x y : List Tro) (hxl : x.length ≤ 1000000) (hyl : y.length ≤ 1000000) (hck : chkT n y = chkT n x) (e1 : ∀ k i t, trSum y k i t = trSum x k i t) (e2 : ∀ k i t, trHas y k i t = trHas x k i t) :
    vc TT6 (fun t => (0, t)) [] c5_11 (finQ r5 [] false (Pu (db true) Hp.none)) ⟨fr [(6, .ptr (0, 6) 0 0 0), (7, .sl (x.map Tro.row)), (8, .sl (y.map Tro.row))], Hp.none.put (0, 6) ⟨0, 6, [netD n]⟩⟩ := by
  have hn1 : netOf1 [D.sl (n.nodes.map nmRow), .sl (n.segs.map Seg.row), .sl (n.ports.map Port.row), .sl (n.sts.map Stn.row), di n.vap, di n.set] = some n := netOf1_row n
  simp (config := { maxSteps := 500000 }) only [↓vp, implies_true, forall_const, v1, v2, v3, v4, v5, v6, v7, v8, Int.reduceBEq, Nat.reduceEqDiff, Nat.reduceAdd, Nat.reduceSub, Nat.reduceMul, Nat.reduceLT, Nat.reduceLeDiff, ↓reduceIte, reduceCtorEq, undef, InI, Int.reduceNeg, Int.reduceSub, Int.reduceLE, Int.reduceLT, Int.reduceAdd, Int.reduceMul, Int.reduceToNat, reduceIte, c5_11, c5_10, TT6, selTck, netD, hn1, hz, troOf_map, hxl, hyl, hck, bne_self_eq_false]
  rw [vc_loop]
  refine ⟨fun m s => ∃ t : Int, 0 ≤ t ∧ t + m = 40 ∧ s = ⟨fr (TPFr x y t []), Hp.none⟩, ⟨40, _, (weak_eq [] [] (TPFr x y 0 []) (by simp (config := { maxSteps := 500000 }) only [↓vp, implies_true, forall_const, v1, v2, v3, v4, v5, v6, v7, v8, Int.reduceBEq, Nat.reduceEqDiff, Nat.reduceAdd, Nat.reduceSub, Nat.reduceMul, Nat.reduceLT, Nat.reduceLeDiff, ↓reduceIte, reduceCtorEq, undef, InI, Int.reduceNeg, Int.reduceSub, Int.reduceLE, Int.reduceLT, Int.reduceAdd, Int.reduceMul, Int.reduceToNat, reduceIte, coverS, TPFr]) (by simp (config := { maxSteps := 500000 }) only [↓vp, implies_true, forall_const, v1, v2, v3, v4, v5, v6, v7, v8, Int.reduceBEq, Nat.reduceEqDiff, Nat.reduceAdd, Nat.reduceSub, Nat.reduceMul, Nat.reduceLT, Nat.reduceLeDiff, ↓reduceIte, reduceCtorEq, undef, InI, Int.reduceNeg, Int.reduceSub, Int.reduceLE, Int.reduceLT, Int.reduceAdd, Int.reduceMul, Int.reduceToNat, reduceIte, refsF, TPFr]) (by simp (config := { maxSteps := 500000 }) only [↓vp, implies_true, forall_const, v1, v2, v3, v4, v5, v6, v7, v8, Int.reduceBEq, Nat.reduceEqDiff, Nat.reduceAdd, Nat.reduceSub, Nat.reduceMul, Nat.reduceLT, Nat.reduceLeDiff, ↓reduceIte, reduceCtorEq, undef, InI, Int.reduceNeg, Int.reduceSub, Int.reduceLE, Int.reduceLT, Int.reduceAdd, Int.reduceMul, Int.reduceToNat, reduceIte, ]) (by simp) (by simp (config := { maxSteps := 500000 }) only [↓vp, implies_true, forall_const, v1, v2, v3, v4, v5, v6, v7, v8, Int.reduceBEq, Nat.reduceEqDiff, Nat.reduceAdd, Nat.reduceSub, Nat.reduceMul, Nat.reduceLT, Nat.reduceLeDiff, ↓reduceIte, reduceCtorEq, undef, InI, Int.reduceNeg, Int.reduceSub, Int.reduceLE, Int.reduceLT, Int.reduceAdd, Int.reduceMul, Int.reduceToNat, reduceIte, ]; try rfl)), ⟨0, by omega, by omega, rfl⟩⟩, ?_⟩
  rintro m s ⟨t, ht0, htm, rfl⟩
  by_cases h1 : t < 40
  · have w1 : IntKind.i64.wrap (t + 1) = t + 1 := wrap_i (by omega)
    simp (config := { maxSteps := 500000 }) only [↓vp, implies_true, forall_const, v1, v2, v3, v4, v5, v6, v7, v8, Int.reduceBEq, Nat.reduceEqDiff, Nat.reduceAdd, Nat.reduceSub, Nat.reduceMul, Nat.reduceLT, Nat.reduceLeDiff, ↓reduceIte, reduceCtorEq, undef, InI, Int.reduceNeg, Int.reduceSub, Int.reduceLE, Int.reduceLT, Int.reduceAdd, Int.reduceMul, Int.reduceToNat, reduceIte, c5_8, c5_7, TPFr, h1]
    rw [vc_loop]
    refine ⟨fun m s => ∃ i : Int, 0 ≤ i ∧ i + m = 5 ∧ s = ⟨fr (TPFr x y t [(13, di i)]), Hp.none⟩, ⟨5, _, (weak_eq [] [] (TPFr x y t [(13, di 0)]) (by simp (config := { maxSteps := 500000 }) only [↓vp, implies_true, forall_const, v1, v2, v3, v4, v5, v6, v7, v8, Int.reduceBEq, Nat.reduceEqDiff, Nat.reduceAdd, Nat.reduceSub, Nat.reduceMul, Nat.reduceLT, Nat.reduceLeDiff, ↓reduceIte, reduceCtorEq, undef, InI, Int.reduceNeg, Int.reduceSub, Int.reduceLE, Int.reduceLT, Int.reduceAdd, Int.reduceMul, Int.reduceToNat, reduceIte, coverS, TPFr]) (by simp (config := { maxSteps := 500000 }) only [↓vp, implies_true, forall_const, v1, v2, v3, v4, v5, v6, v7, v8, Int.reduceBEq, Nat.reduceEqDiff, Nat.reduceAdd, Nat.reduceSub, Nat.reduceMul, Nat.reduceLT, Nat.reduceLeDiff, ↓reduceIte, reduceCtorEq, undef, InI, Int.reduceNeg, Int.reduceSub, Int.reduceLE, Int.reduceLT, Int.reduceAdd, Int.reduceMul, Int.reduceToNat, reduceIte, refsF, TPFr]) (by simp (config := { maxSteps := 500000 }) only [↓vp, implies_true, forall_const, v1, v2, v3, v4, v5, v6, v7, v8, Int.reduceBEq, Nat.reduceEqDiff, Nat.reduceAdd, Nat.reduceSub, Nat.reduceMul, Nat.reduceLT, Nat.reduceLeDiff, ↓reduceIte, reduceCtorEq, undef, InI, Int.reduceNeg, Int.reduceSub, Int.reduceLE, Int.reduceLT, Int.reduceAdd, Int.reduceMul, Int.reduceToNat, reduceIte, ]) (by simp) (by simp (config := { maxSteps := 500000 }) only [↓vp, implies_true, forall_const, v1, v2, v3, v4, v5, v6, v7, v8, Int.reduceBEq, Nat.reduceEqDiff, Nat.reduceAdd, Nat.reduceSub, Nat.reduceMul, Nat.reduceLT, Nat.reduceLeDiff, ↓reduceIte, reduceCtorEq, undef, InI, Int.reduceNeg, Int.reduceSub, Int.reduceLE, Int.reduceLT, Int.reduceAdd, Int.reduceMul, Int.reduceToNat, reduceIte, ]; try rfl)), ⟨0, by omega, by omega, rfl⟩⟩, ?_⟩
    rintro m2 s ⟨i, hi0, him, rfl⟩
    by_cases h2 : i < 5
    · have w2 : IntKind.i64.wrap (i + 1) = i + 1 := wrap_i (by omega)
      simp (config := { maxSteps := 500000 }) only [↓vp, implies_true, forall_const, v1, v2, v3, v4, v5, v6, v7, v8, Int.reduceBEq, Nat.reduceEqDiff, Nat.reduceAdd, Nat.reduceSub, Nat.reduceMul, Nat.reduceLT, Nat.reduceLeDiff, ↓reduceIte, reduceCtorEq, undef, InI, Int.reduceNeg, Int.reduceSub, Int.reduceLE, Int.reduceLT, Int.reduceAdd, Int.reduceMul, Int.reduceToNat, reduceIte, c5_5, c5_4, c5_3, TPFr, TT6, TT5, TT4, selLeak, selStop, h2, troOf_map, hxl, hyl, e1, e2, bne_self_eq_false, w2]
      exact ⟨m2 - 1, _, by omega, weak_eq [] [] (TPFr x y t [(13, di (i + 1))]) (by simp (config := { maxSteps := 500000 }) only [↓vp, implies_true, forall_const, v1, v2, v3, v4, v5, v6, v7, v8, Int.reduceBEq, Nat.reduceEqDiff, Nat.reduceAdd, Nat.reduceSub, Nat.reduceMul, Nat.reduceLT, Nat.reduceLeDiff, ↓reduceIte, reduceCtorEq, undef, InI, Int.reduceNeg, Int.reduceSub, Int.reduceLE, Int.reduceLT, Int.reduceAdd, Int.reduceMul, Int.reduceToNat, reduceIte, coverS, TPFr, w2]) (by simp (config := { maxSteps := 500000 }) only [↓vp, implies_true, forall_const, v1, v2, v3, v4, v5, v6, v7, v8, Int.reduceBEq, Nat.reduceEqDiff, Nat.reduceAdd, Nat.reduceSub, Nat.reduceMul, Nat.reduceLT, Nat.reduceLeDiff, ↓reduceIte, reduceCtorEq, undef, InI, Int.reduceNeg, Int.reduceSub, Int.reduceLE, Int.reduceLT, Int.reduceAdd, Int.reduceMul, Int.reduceToNat, reduceIte, refsF, TPFr]) (by simp (config := { maxSteps := 500000 }) only [↓vp, implies_true, forall_const, v1, v2, v3, v4, v5, v6, v7, v8, Int.reduceBEq, Nat.reduceEqDiff, Nat.reduceAdd, Nat.reduceSub, Nat.reduceMul, Nat.reduceLT, Nat.reduceLeDiff, ↓reduceIte, reduceCtorEq, undef, InI, Int.reduceNeg, Int.reduceSub, Int.reduceLE, Int.reduceLT, Int.reduceAdd, Int.reduceMul, Int.reduceToNat, reduceIte, ]) (by simp) (by simp (config := { maxSteps := 500000 }) only [↓vp, implies_true, forall_const, v1, v2, v3, v4, v5, v6, v7, v8, Int.reduceBEq, Nat.reduceEqDiff, Nat.reduceAdd, Nat.reduceSub, Nat.reduceMul, Nat.reduceLT, Nat.reduceLeDiff, ↓reduceIte, reduceCtorEq, undef, InI, Int.reduceNeg, Int.reduceSub, Int.reduceLE, Int.reduceLT, Int.reduceAdd, Int.reduceMul, Int.reduceToNat, reduceIte, ]; try rfl), ⟨i + 1, by omega, by omega, rfl⟩⟩
    · simp (config := { maxSteps := 500000 }) only [↓vp, implies_true, forall_const, v1, v2, v3, v4, v5, v6, v7, v8, Int.reduceBEq, Nat.reduceEqDiff, Nat.reduceAdd, Nat.reduceSub, Nat.reduceMul, Nat.reduceLT, Nat.reduceLeDiff, ↓reduceIte, reduceCtorEq, undef, InI, Int.reduceNeg, Int.reduceSub, Int.reduceLE, Int.reduceLT, Int.reduceAdd, Int.reduceMul, Int.reduceToNat, reduceIte, c5_5, c5_6, TPFr, h2]
      exact ⟨m - 1, _, by omega, weak_eq [] [] (TPFr x y (t + 1) []) (by simp (config := { maxSteps := 500000 }) only [↓vp, implies_true, forall_const, v1, v2, v3, v4, v5, v6, v7, v8, Int.reduceBEq, Nat.reduceEqDiff, Nat.reduceAdd, Nat.reduceSub, Nat.reduceMul, Nat.reduceLT, Nat.reduceLeDiff, ↓reduceIte, reduceCtorEq, undef, InI, Int.reduceNeg, Int.reduceSub, Int.reduceLE, Int.reduceLT, Int.reduceAdd, Int.reduceMul, Int.reduceToNat, reduceIte, coverS, TPFr, w1]) (by simp (config := { maxSteps := 500000 }) only [↓vp, implies_true, forall_const, v1, v2, v3, v4, v5, v6, v7, v8, Int.reduceBEq, Nat.reduceEqDiff, Nat.reduceAdd, Nat.reduceSub, Nat.reduceMul, Nat.reduceLT, Nat.reduceLeDiff, ↓reduceIte, reduceCtorEq, undef, InI, Int.reduceNeg, Int.reduceSub, Int.reduceLE, Int.reduceLT, Int.reduceAdd, Int.reduceMul, Int.reduceToNat, reduceIte, refsF, TPFr]) (by simp (config := { maxSteps := 500000 }) only [↓vp, implies_true, forall_const, v1, v2, v3, v4, v5, v6, v7, v8, Int.reduceBEq, Nat.reduceEqDiff, Nat.reduceAdd, Nat.reduceSub, Nat.reduceMul, Nat.reduceLT, Nat.reduceLeDiff, ↓reduceIte, reduceCtorEq, undef, InI, Int.reduceNeg, Int.reduceSub, Int.reduceLE, Int.reduceLT, Int.reduceAdd, Int.reduceMul, Int.reduceToNat, reduceIte, ]) (by simp) (by simp (config := { maxSteps := 500000 }) only [↓vp, implies_true, forall_const, v1, v2, v3, v4, v5, v6, v7, v8, Int.reduceBEq, Nat.reduceEqDiff, Nat.reduceAdd, Nat.reduceSub, Nat.reduceMul, Nat.reduceLT, Nat.reduceLeDiff, ↓reduceIte, reduceCtorEq, undef, InI, Int.reduceNeg, Int.reduceSub, Int.reduceLE, Int.reduceLT, Int.reduceAdd, Int.reduceMul, Int.reduceToNat, reduceIte, ]; try rfl), ⟨t + 1, by omega, by omega, rfl⟩⟩
  · simp (config := { maxSteps := 500000 }) only [↓vp, implies_true, forall_const, v1, v2, v3, v4, v5, v6, v7, v8, Int.reduceBEq, Nat.reduceEqDiff, Nat.reduceAdd, Nat.reduceSub, Nat.reduceMul, Nat.reduceLT, Nat.reduceLeDiff, ↓reduceIte, reduceCtorEq, undef, InI, Int.reduceNeg, Int.reduceSub, Int.reduceLE, Int.reduceLT, Int.reduceAdd, Int.reduceMul, Int.reduceToNat, reduceIte, c5_8, c5_9, r5, TPFr, TT6, TT5, selAw, h1, Pu]
set_option maxHeartbeats 8000000 in
theorem TP_c (ns : List Int) (hns : ∀ n ∈ ns, InI n) (T : Nat) (hT : T < 256) (nn : Nm) : CallsA Try.prog 5 [.sl (ns.map fun n => [di n]), .v (.int .u8 T)] Hp.none nn (Pu (db true) Hp.none) := by
  obtain ⟨code, h1, h2⟩ := c5_ok
  refine callsA_of TT6_ok mixed (N := fun t => (0, t)) Try.func5 h1 h2 r5_ok [] false js_nil js_nil' (by simp [Try.f5]) ?_
  by_cases hf : (ns.length : Int) ≤ 400
  · have htk : (ns.map fun n => [di n]).take 2000 = ns.map fun n => [di n] := List.take_of_length_le (by simp; omega)
    have ho : SrcOk (ns.map fun n => [di n]) 0 := ⟨Int.le_refl _, by simp, by simp; omega, ns, rfl, hns⟩
    simp (config := { maxSteps := 500000 }) only [↓vp, implies_true, forall_const, v1, v2, v3, v4, v5, v6, v7, v8, Int.reduceBEq, Nat.reduceEqDiff, Nat.reduceAdd, Nat.reduceSub, Nat.reduceMul, Nat.reduceLT, Nat.reduceLeDiff, ↓reduceIte, reduceCtorEq, undef, InI, Int.reduceNeg, Int.reduceSub, Int.reduceLE, Int.reduceLT, Int.reduceAdd, Int.reduceMul, Int.reduceToNat, reduceIte, c5, c5_12, TT6, TT5, TT4, selFew, selAw, rowNew, sel0, selTrs, hf, htk, ho, Net.enc, TrEnc]
    intro a1 n hn
    have hp := hn.ports
    have hs := hn.slen
    have hl := hn.nlen
    have hpl := hp.len
    have hz := netOk_sz hn
    have hp1 : 1 ≤ n.ports.length := by
      have := hp.hd (by omega)
      cases hq : n.ports with
      | nil => rw [hq] at this; cases this
      | cons => simp
    refine ⟨⟨⟨by omega, by omega⟩, hp1, by omega⟩, fun a2 x hx => ?_⟩
    obtain ⟨hx1, hx2⟩ := hx
    have hxl : x.length ≤ 6 := by omega
    have hle : ∀ z ∈ x, z.fr ≤ z.to := fun z hz => by have := (hx2 z hz).to; omega
    obtain ⟨c, hc⟩ : ∃ c : Nat, c = T % 7 := ⟨_, rfl⟩
    have hc6 : c ≤ 6 := by omega
    rw [vc_loop]
    refine ⟨fun m s => ∃ (g j : Nat), j + m = x.length ∧ s = ⟨fr [(1, .v (.int .u8 T)), (6, .ptr (0, 6) 0 0 0), (7, .sl (x.map Tro.row)), (8, .own (0, 1000) g 0 ((x.take j).flatMap (halves c)).length), (9, di j)], (Hp.none.put (0, 1000) ⟨g, 5, ((x.take j).flatMap (halves c)).map Tro.row⟩).put (0, 6) ⟨0, 6, [netD n]⟩⟩,
      ⟨x.length, _, (weak_own 8 (0, 1000) 5 (by simp (config := { maxSteps := 500000 }) only [↓vp, implies_true, forall_const, v1, v2, v3, v4, v5, v6, v7, v8, Int.reduceBEq, Nat.reduceEqDiff, Nat.reduceAdd, Nat.reduceSub, Nat.reduceMul, Nat.reduceLT, Nat.reduceLeDiff, ↓reduceIte, reduceCtorEq, undef, InI, Int.reduceNeg, Int.reduceSub, Int.reduceLE, Int.reduceLT, Int.reduceAdd, Int.reduceMul, Int.reduceToNat, reduceIte, ]) (by simp (config := { maxSteps := 500000 }) only [↓vp, implies_true, forall_const, v1, v2, v3, v4, v5, v6, v7, v8, Int.reduceBEq, Nat.reduceEqDiff, Nat.reduceAdd, Nat.reduceSub, Nat.reduceMul, Nat.reduceLT, Nat.reduceLeDiff, ↓reduceIte, reduceCtorEq, undef, InI, Int.reduceNeg, Int.reduceSub, Int.reduceLE, Int.reduceLT, Int.reduceAdd, Int.reduceMul, Int.reduceToNat, reduceIte, ])).trans (weak_eq [] [(0, 6), (0, 1000)] [(1, .v (.int .u8 T)), (6, .ptr (0, 6) 0 0 0), (7, .sl (x.map Tro.row)), (8, .own (0, 1000) 0 0 0), (9, di 0)] (by simp (config := { maxSteps := 500000 }) only [↓vp, implies_true, forall_const, v1, v2, v3, v4, v5, v6, v7, v8, Int.reduceBEq, Nat.reduceEqDiff, Nat.reduceAdd, Nat.reduceSub, Nat.reduceMul, Nat.reduceLT, Nat.reduceLeDiff, ↓reduceIte, reduceCtorEq, undef, InI, Int.reduceNeg, Int.reduceSub, Int.reduceLE, Int.reduceLT, Int.reduceAdd, Int.reduceMul, Int.reduceToNat, reduceIte, coverS]) (by simp (config := { maxSteps := 500000 }) only [↓vp, implies_true, forall_const, v1, v2, v3, v4, v5, v6, v7, v8, Int.reduceBEq, Nat.reduceEqDiff, Nat.reduceAdd, Nat.reduceSub, Nat.reduceMul, Nat.reduceLT, Nat.reduceLeDiff, ↓reduceIte, reduceCtorEq, undef, InI, Int.reduceNeg, Int.reduceSub, Int.reduceLE, Int.reduceLT, Int.reduceAdd, Int.reduceMul, Int.reduceToNat, reduceIte, refsF]) (by simp (config := { maxSteps := 500000 }) only [↓vp, implies_true, forall_const, v1, v2, v3, v4, v5, v6, v7, v8, Int.reduceBEq, Nat.reduceEqDiff, Nat.reduceAdd, Nat.reduceSub, Nat.reduceMul, Nat.reduceLT, Nat.reduceLeDiff, ↓reduceIte, reduceCtorEq, undef, InI, Int.reduceNeg, Int.reduceSub, Int.reduceLE, Int.reduceLT, Int.reduceAdd, Int.reduceMul, Int.reduceToNat, reduceIte, ]) (by simp) (by simp (config := { maxSteps := 500000 }) only [↓vp, implies_true, forall_const, v1, v2, v3, v4, v5, v6, v7, v8, Int.reduceBEq, Nat.reduceEqDiff, Nat.reduceAdd, Nat.reduceSub, Nat.reduceMul, Nat.reduceLT, Nat.reduceLeDiff, ↓reduceIte, reduceCtorEq, undef, InI, Int.reduceNeg, Int.reduceSub, Int.reduceLE, Int.reduceLT, Int.reduceAdd, Int.reduceMul, Int.reduceToNat, reduceIte, ]; try rfl)), ⟨0, 0, by simp, by simp [netD]⟩⟩, ?_⟩
    rintro m s ⟨g, j, hjm, rfl⟩
    by_cases h3 : j < x.length
    · have h3' : (j : Int) < x.length := by omega
      have hj0 := idx_nn j
      have wT : IntKind.i64.wrap (T : Int) = T := wrap_i (by omega)
      have wm : (T : Int).tmod 7 = (c : Int) := by rw [hc]; exact (Int.ofNat_tmod T 7).symm
      have w3 := idx_next (j := j) (by omega)
      have hg := getD_map Tro.row x j h3
      have hz1 := hx2 _ (List.getElem_mem h3)
      have htk2 := take_fm (halves c) h3
      have hhl := halves_len c (x.take j)
      rw [List.length_take] at hhl
      generalize x[j] = z at hg hz1 htk2
      have hfr := hz1.fr
      have w4 : IntKind.i64.wrap (z.fr + c) = z.fr + c := wrap_i (by omega)
      generalize (x.take j).flatMap (halves c) = K at hhl htk2
      have hm : (D.v (.int .i64 (if z.fr + (c : Int) < z.to then z.fr + c else z.to))) = di (midT c z) := rfl
      have n7 : (7 : Int) ≠ 0 := by omega
      simp (config := { maxSteps := 500000 }) only [↓vp, implies_true, forall_const, v1, v2, v3, v4, v5, v6, v7, v8, Int.reduceBEq, Nat.reduceEqDiff, Nat.reduceAdd, Nat.reduceSub, Nat.reduceMul, Nat.reduceLT, Nat.reduceLeDiff, ↓reduceIte, reduceCtorEq, undef, InI, Int.reduceNeg, Int.reduceSub, Int.reduceLE, Int.reduceLT, Int.reduceAdd, Int.reduceMul, Int.reduceToNat, reduceIte, c5_2, c5_1, netD, h3', hj0, Int.toNat_natCast, wT, wm, w3, w4, hg, Tro.row, n7]
      refine ⟨⟨by omega, by omega⟩, m - 1, _, by omega, weak_eq [] [(0, 6), (0, 1000)] [(1, .v (.int .u8 T)), (6, .ptr (0, 6) 0 0 0), (7, .sl (x.map Tro.row)), (8, .own (0, 1000) (g + 1) 0 (K.length + 2)), (9, di (j + 1 : Nat))] (by simp (config := { maxSteps := 500000 }) only [↓vp, implies_true, forall_const, v1, v2, v3, v4, v5, v6, v7, v8, Int.reduceBEq, Nat.reduceEqDiff, Nat.reduceAdd, Nat.reduceSub, Nat.reduceMul, Nat.reduceLT, Nat.reduceLeDiff, ↓reduceIte, reduceCtorEq, undef, InI, Int.reduceNeg, Int.reduceSub, Int.reduceLE, Int.reduceLT, Int.reduceAdd, Int.reduceMul, Int.reduceToNat, reduceIte, coverS, Tro.row, w3]) (by simp (config := { maxSteps := 500000 }) only [↓vp, implies_true, forall_const, v1, v2, v3, v4, v5, v6, v7, v8, Int.reduceBEq, Nat.reduceEqDiff, Nat.reduceAdd, Nat.reduceSub, Nat.reduceMul, Nat.reduceLT, Nat.reduceLeDiff, ↓reduceIte, reduceCtorEq, undef, InI, Int.reduceNeg, Int.reduceSub, Int.reduceLE, Int.reduceLT, Int.reduceAdd, Int.reduceMul, Int.reduceToNat, reduceIte, refsF]) (by simp (config := { maxSteps := 500000 }) only [↓vp, implies_true, forall_const, v1, v2, v3, v4, v5, v6, v7, v8, Int.reduceBEq, Nat.reduceEqDiff, Nat.reduceAdd, Nat.reduceSub, Nat.reduceMul, Nat.reduceLT, Nat.reduceLeDiff, ↓reduceIte, reduceCtorEq, undef, InI, Int.reduceNeg, Int.reduceSub, Int.reduceLE, Int.reduceLT, Int.reduceAdd, Int.reduceMul, Int.reduceToNat, reduceIte, Tro.row]) (by simp) (by simp (config := { maxSteps := 500000 }) only [↓vp, implies_true, forall_const, v1, v2, v3, v4, v5, v6, v7, v8, Int.reduceBEq, Nat.reduceEqDiff, Nat.reduceAdd, Nat.reduceSub, Nat.reduceMul, Nat.reduceLT, Nat.reduceLeDiff, ↓reduceIte, reduceCtorEq, undef, InI, Int.reduceNeg, Int.reduceSub, Int.reduceLE, Int.reduceLT, Int.reduceAdd, Int.reduceMul, Int.reduceToNat, reduceIte, Tro.row]; try rfl), ⟨g + 1, j + 1, by omega, ?_⟩⟩
      simp only [htk2]
      simp [halves, Tro.row, midT, netD]
    · have h3' : ¬ (j : Int) < x.length := by omega
      obtain rfl : j = x.length := by omega
      simp only [List.take_length]
      simp (config := { maxSteps := 500000 }) only [↓vp, implies_true, forall_const, v1, v2, v3, v4, v5, v6, v7, v8, Int.reduceBEq, Nat.reduceEqDiff, Nat.reduceAdd, Nat.reduceSub, Nat.reduceMul, Nat.reduceLT, Nat.reduceLeDiff, ↓reduceIte, reduceCtorEq, undef, InI, Int.reduceNeg, Int.reduceSub, Int.reduceLE, Int.reduceLT, Int.reduceAdd, Int.reduceMul, Int.reduceToNat, reduceIte, c5_2, netD, h3']
      refine vc_wk (weak_eq [(0, 1000)] [(0, 6)] [(6, .ptr (0, 6) 0 0 0), (7, .sl (x.map Tro.row)), (8, .sl ((x.flatMap (halves c)).map Tro.row))] (by simp (config := { maxSteps := 500000 }) only [↓vp, implies_true, forall_const, v1, v2, v3, v4, v5, v6, v7, v8, Int.reduceBEq, Nat.reduceEqDiff, Nat.reduceAdd, Nat.reduceSub, Nat.reduceMul, Nat.reduceLT, Nat.reduceLeDiff, ↓reduceIte, reduceCtorEq, undef, InI, Int.reduceNeg, Int.reduceSub, Int.reduceLE, Int.reduceLT, Int.reduceAdd, Int.reduceMul, Int.reduceToNat, reduceIte, coverS, Tro.row]) (by simp (config := { maxSteps := 500000 }) only [↓vp, implies_true, forall_const, v1, v2, v3, v4, v5, v6, v7, v8, Int.reduceBEq, Nat.reduceEqDiff, Nat.reduceAdd, Nat.reduceSub, Nat.reduceMul, Nat.reduceLT, Nat.reduceLeDiff, ↓reduceIte, reduceCtorEq, undef, InI, Int.reduceNeg, Int.reduceSub, Int.reduceLE, Int.reduceLT, Int.reduceAdd, Int.reduceMul, Int.reduceToNat, reduceIte, refsF]) (by simp (config := { maxSteps := 500000 }) only [↓vp, implies_true, forall_const, v1, v2, v3, v4, v5, v6, v7, v8, Int.reduceBEq, Nat.reduceEqDiff, Nat.reduceAdd, Nat.reduceSub, Nat.reduceMul, Nat.reduceLT, Nat.reduceLeDiff, ↓reduceIte, reduceCtorEq, undef, InI, Int.reduceNeg, Int.reduceSub, Int.reduceLE, Int.reduceLT, Int.reduceAdd, Int.reduceMul, Int.reduceToNat, reduceIte, ]) (by simp) (by simp (config := { maxSteps := 500000 }) only [↓vp, implies_true, forall_const, v1, v2, v3, v4, v5, v6, v7, v8, Int.reduceBEq, Nat.reduceEqDiff, Nat.reduceAdd, Nat.reduceSub, Nat.reduceMul, Nat.reduceLT, Nat.reduceLeDiff, ↓reduceIte, reduceCtorEq, undef, InI, Int.reduceNeg, Int.reduceSub, Int.reduceLE, Int.reduceLT, Int.reduceAdd, Int.reduceMul, Int.reduceToNat, reduceIte, ]; try rfl)) ?_
      have hhl := halves_len c x
      have hsm : Small x := ⟨by omega, fun z hz => by have := (hx2 z hz).value; omega⟩
      have hsy : Small (x.flatMap (halves c)) := ⟨by omega, fun y hy => by
        obtain ⟨z, hz, _, _, hv, _⟩ := halves_mem hy
        have := (hx2 z hz).value
        omega⟩
      refine TP_o n hz x _ (by omega) (by omega) ?_ (fun k i t => ?_) (fun k i t => has_halves (by omega) k i t x hle)
      · rw [chk_ok (by omega) (fun z hz => tr_val (hx2 z hz)), chk_ok (by omega) (fun y hy => ?_)]
        obtain ⟨z, hz, e1, e2, e3, e4⟩ := halves_mem hy
        have a := hx2 z hz
        have af := a.fr
        have at' := a.to
        have am := mid_in (c := c) (x := z) (by omega) (hle z hz)
        exact val_ok (by rw [e1]; exact a.kind) ⟨by omega, by omega, by omega⟩ (by rw [e2]; exact a.index) (by rw [e3]; exact a.value) (fun h => by rw [e2, e3]; exact a.k1 (e1 ▸ h)) (fun h => by rw [e2]; exact a.k2 (e1 ▸ h)) (fun h => by rw [e2, e3]; exact a.k3 (e1 ▸ h)) (fun h => by rw [e3]; exact a.k4 (e1 ▸ h))
      · rw [trSum_S hsy, trSum_S hsm, sS_halves (by omega) k i t x hle]
  · simp (config := { maxSteps := 500000 }) only [↓vp, implies_true, forall_const, v1, v2, v3, v4, v5, v6, v7, v8, Int.reduceBEq, Nat.reduceEqDiff, Nat.reduceAdd, Nat.reduceSub, Nat.reduceMul, Nat.reduceLT, Nat.reduceLeDiff, ↓reduceIte, reduceCtorEq, undef, InI, Int.reduceNeg, Int.reduceSub, Int.reduceLE, Int.reduceLT, Int.reduceAdd, Int.reduceMul, Int.reduceToNat, reduceIte, c5, r5, TT6, TT5, TT4, selFew, selAw, hf, Pu, decide_true, decide_false]
theorem TroubleParts_law (a : Option Addr) (len cap : Nat) (cut : Int) (w : World) (h : ArgInts w a len cap) (h0 : 0 ≤ cut) (h1 : cut ≤ 255) :
    Calls Try.prog 5 #[.slice a len cap, .int .u8 cut] w (Ret (.bool true) w) := by
  refine law_ints (us := [.int .u8 cut]) h fun ns hns => ?_
  have := TP_c ns hns cut.toNat (by omega) (0, 0)
  rw [show ((cut.toNat : Nat) : Int) = cut by omega] at this
  exact this
end Go.Proofs.Ytiaenojpbiahgaa
