
/- FlowRest: the walk. -/
import Derived.Test.YtiaenojpbiahgaaFw5
import Derived.Test.YtiaenojpbiahgaaPl1
import Derived.Test.YtiaenojpbiahgaaNkOk
import Derived.Test.YtiaenojpbiahgaaVz
import Derived.Test.YtiaenojpbiahgaaNw
import Derived.Test.YtiaenojpbiahgaaAwF
import Derived.Test.YtiaenojpbiahgaaBridge
import Derived.Test.YtiaenojpbiahgaaCodeFR
namespace Go.Proofs.Ytiaenojpbiahgaa
open Go
set_option linter.unusedVariables false
set_option linter.unusedSimpArgs false
set_option maxRecDepth 100000

def p0 (n : Net) : Pln := ⟨List.replicate n.segs.length 0, List.replicate n.ports.length 0, List.replicate n.sts.length false⟩
theorem rest_net {n : Net} (v : Int) : sumI (netOf v) (flowsOf n (p0 n)) = 0 := by
  refine sumI_zero fun t ht => ?_
  have : t.2.2 = 0 := by
    unfold flowsOf p0 at ht
    rcases List.mem_append.1 ht with ht | ht
    · rw [← List.map_uncurry_zip_eq_zipWith] at ht
      obtain ⟨x, hx, rfl⟩ := List.mem_map.1 ht
      exact (List.mem_replicate.1 (List.of_mem_zip hx).2).2
    · rw [← List.map_uncurry_zip_eq_zipWith] at ht
      obtain ⟨x, hx, rfl⟩ := List.mem_map.1 ht
      exact (List.mem_replicate.1 (List.of_mem_zip hx).2).2
  unfold netOf
  rw [this]
  split <;> split <;> rfl
theorem most_b {s : Seg} (h : 1 ≤ s.cap) : 1 ≤ most s ∧ most s ≤ 1000 := by unfold most; constructor <;> split <;> omega
theorem with_t {r m : Int} (h1 : -m ≤ r) (h2 : r ≤ m) : withB r m = true := by unfold withB; rw [if_pos h1]; exact decide_eq_true h2
theorem len_f {n : Net} {p : Pln} (h1 : p.rates.length = n.segs.length) (h2 : p.ports.length = n.ports.length) (h3 : p.pumps.length = n.sts.length) : lenBad n p = false := by
  unfold lenBad
  rw [h1, h2, h3]
  simp
theorem any_ff {α : Type} {p : α → Bool} {l : List α} (h : ∀ x ∈ l, p x = false) : l.any p = false := List.any_eq_false.2 fun x hx e => by rw [h x hx] at e; cases e
theorem rest_ord {n : Net} : ordB n (p0 n) = List.range n.nodes.length := by
  have := ord_rest (E := n.segs.zip (p0 n).rates) (fun x hx => (List.mem_replicate.1 (List.of_mem_zip hx).2).2) n.nodes.length 0
  simpa [ordB] using this
theorem rest0 {n : Net} (hck : checkI n = 0) : fckI n (p0 n) = 0 := by
  have hv := check0 hck
  unfold fckI
  rw [if_pos hck, len_f (by simp [p0]) (by simp [p0]) (by simp [p0]), any_ff fun x hx => ?_, any_ff fun r hr => ?_, if_pos ((bal_iff _).2 fun v _ => rest_net _), rest_ord, List.length_range]
  · simp
  · have e : r = 0 := (List.mem_replicate.1 hr).2
    subst e
    rfl
  · have e : x.2 = 0 := (List.mem_replicate.1 (List.of_mem_zip hx).2).2
    have hm := most_b (hv.se x.1 (List.of_mem_zip hx).1).2.2.2.1
    unfold rateBad
    rw [e, with_t (by omega) (by omega)]
    rfl
theorem rest1 {n : Net} (hck : checkI n = 0) (k : Nat) (hk : k < n.segs.length) : fckI n ⟨(List.replicate n.segs.length 0).set k 1, List.replicate n.ports.length 0, List.replicate n.sts.length false⟩ = 12 := by
  have hv := check0 hck
  have hs := hv.se _ (List.getElem_mem hk)
  have hb : ¬ Bal (flowsOf n ⟨(List.replicate n.segs.length 0).set k 1, List.replicate n.ports.length 0, List.replicate n.sts.length false⟩) := fun hb => by
    have h1 := hb n.segs[k].to.toNat (by have := hv.nl; omega)
    have h2 := @rest_net n ((n.segs[k].to.toNat : Nat) : Int)
    unfold flowsOf p0 at h2
    unfold flowsOf at h1
    rw [sumI_app] at h1 h2
    dsimp only at h1 h2
    rw [sum_set (netOf _) segFl n.segs (List.replicate n.segs.length 0) k n.segs[k] 0 1 (List.getElem?_eq_getElem hk) (by rw [List.getElem?_replicate, if_pos hk])] at h1
    have e : ((n.segs[k].to.toNat : Nat) : Int) = n.segs[k].to := by omega
    rw [e] at h1 h2
    have e1 : netOf n.segs[k].to (segFl n.segs[k] 1) = 1 := by unfold netOf segFl; dsimp only; rw [if_pos rfl, if_neg hs.2.2.1]; rfl
    have e2 : netOf n.segs[k].to (segFl n.segs[k] 0) = 0 := by unfold netOf segFl; dsimp only; split <;> split <;> rfl
    rw [e1, e2] at h1
    omega
  unfold fckI
  rw [if_pos hck, len_f (by simp) (by simp) (by simp), any_ff fun x hx => ?_, any_ff fun r hr => ?_, if_neg fun h => hb ((bal_iff _).1 h)]
  · simp
  · have e : r = 0 := (List.mem_replicate.1 hr).2
    subst e
    rfl
  · have hm := most_b (hv.se x.1 (List.of_mem_zip hx).1).2.2.2.1
    have e : x.2 = 0 ∨ x.2 = 1 := by
      rcases List.mem_or_eq_of_mem_set (List.of_mem_zip hx).2 with h | h
      · exact .inl (List.mem_replicate.1 h).2
      · exact .inr h
    unfold rateBad
    rw [with_t (by omega) (by omega)]
    rfl
def TL0 : Tbl := tc 28 (rowPu (selNP FckPre fun n p => .tup [.sl ((ordR n p).map nRow), di (fckI n p)])) (tc 31 (rowPu (selNP FckPre fun n p => di (fckI n p))) (tc 30 (rowPu selAw) (tc 14 rowNew (tc 15 (rowSrc (sel0 NetOk) Net.enc) T0))))
theorem TL0_ok : TblOk Try.prog TL0 := by
  refine tc_np f28_ok (fun n p h nn => fOrder_c n p h nn) (tc_np f31_ok (fun n p h nn => fcheck_c n p h.1 h.2 nn) (tc_pu f30_ok (fun args pre d h hp nn => ?_) (tc_new (tc_net (T0_ok _)))))
  unfold selAw at h
  split at h <;> cases h
  exact awake16_c nn
set_option maxHeartbeats 16000000 in
theorem FR_c (ns : List Int) (hns : ∀ n ∈ ns, InI n) (T : Nat) (hT : T < 256) (nn : Nm) : CallsA Try.prog 7 [.sl (ns.map fun n => [di n]), .v (.int .u8 T)] Hp.none nn (Pu (db true) Hp.none) := by
  obtain ⟨code, h1, h2⟩ := c7_ok
  refine callsA_of TL0_ok mixed (N := fun t => (0, t)) Try.func7 h1 h2 r7_ok [] false js_nil js_nil' (by simp [Try.f7]) ?_
  have ho : SrcOk ((ns.map fun n => [di n]).take 2000) 0 := src_new ns hns
  simp (config := { maxSteps := 500000 }) only [↓vp, vv, implies_true, forall_const, undef, InI, ↓reduceIte, simprocAttr, c7, TL0, rowNew, sel0, ho, Net.enc]
  intro a1 n hn
  have hsl := hn.slen
  have hnl := hn.nlen
  have hpl := hn.ports.len
  have htl := hn.sts.len
  have s1 : 1 ≤ n.segs.length := by omega
  have u1 := idx_nn n.segs.length
  have u2 := idx_nn n.ports.length
  have u3 := idx_nn n.sts.length
  have v1' : (8 : Int) * n.segs.length ≤ 281474976710656 := by omega
  have v2' : (8 : Int) * n.ports.length ≤ 281474976710656 := by omega
  have v3' : (1 : Int) * n.sts.length ≤ 281474976710656 := by omega
  have v4' : (n.segs.length : Int) ≤ 4611686018427387904 := by omega
  have v5' : (n.ports.length : Int) ≤ 4611686018427387904 := by omega
  have v6' : (n.sts.length : Int) ≤ 4611686018427387904 := by omega
  have e1 : ∀ k, List.replicate k [di 0] = (List.replicate k 0).map iRow := fun k => by rw [List.map_replicate]; rfl
  have e2 : ∀ k, List.replicate k [db false] = (List.replicate k false).map bRow := fun k => by rw [List.map_replicate]; rfl
  have t1 : ∀ k, ((List.replicate k (0 : Int)).map iRow).take k = (List.replicate k 0).map iRow := fun k => List.take_of_length_le (by simp)
  have wT : IntKind.i64.wrap (T : Int) = T := wrap_i (by omega)
  have w2 : (T : Int).tmod n.segs.length = (T % n.segs.length : Nat) := (Int.ofNat_tmod _ _).symm
  have hne : ¬ (n.segs.length : Int) = 0 := by omega
  have hr := Nat.mod_lt T (show 0 < n.segs.length by omega)
  generalize hR : T % n.segs.length = k at hr w2
  have k0 := idx_nn k
  have k1 : (k : Int) < n.segs.length := by omega
  have g0 : (List.map iRow (List.replicate n.segs.length 0)).getD k [] = [di 0] := by rw [iRow_at _ k (by rw [List.length_replicate]; exact hr), List.getElem_replicate]
  have e3 : (List.map iRow (List.replicate n.segs.length 0)).set k [di 1] = ((List.replicate n.segs.length 0).set k 1).map iRow := (List.map_set ..).symm
  simp (config := { maxSteps := 500000 }) only [↓vp, vv, implies_true, forall_const, undef, InI, ↓reduceIte, simprocAttr, c7, r7, c7_1, c7_2, c7_3, c7_4, c7_5, TL0, g0, e3, u1, u2, u3, v1', v2', v3', v4', v5', v6', Int.toNat_natCast, e1, e2, t1, wT, w2, hne, k0, k1, hr, List.length_replicate]
  refine ⟨⟨fun j _ => rfl, by omega, by omega⟩, ?_⟩
  have r1 := fun R => rows_pl iRow (fun _ => rfl) R
  have r2 := fun R => rows_pl bRow (fun _ => rfl) R
  have r3 := fun ks H R => rows_ok iRow (fun _ => rfl) ks H R
  have r4 := fun ks H R => rows_ok bRow (fun _ => rfl) ks H R
  have l1 : ((List.replicate n.segs.length (0 : Int)).set k 1).length = n.segs.length := by simp
  have t2 : (((List.replicate n.segs.length (0 : Int)).set k 1).map iRow).take n.segs.length = ((List.replicate n.segs.length 0).set k 1).map iRow := List.take_of_length_le (by simp)
  have t3 : ∀ k, ((List.replicate k false).map bRow).take k = (List.replicate k false).map bRow := fun k => List.take_of_length_le (by simp)
  generalize hR1 : (List.replicate n.segs.length (0 : Int)).set k 1 = R1 at l1 t2
  refine vc_wk ((weak_eq [] [(0, 6), (0, 7), (0, 8), (0, 19), (0, 23), (0, 27), (0, 29)] [(6, .ptr (0, 6) 0 0 0), (7, .ptr (0, 7) 0 0 0), (8, .ptr (0, 8) 0 0 0)]
      (H' := hp [((0, 6), ⟨0, 6, [netD n]⟩), ((0, 7), ⟨0, 3, [[.own (0, 19) 0 0 n.segs.length, .own (0, 23) 0 0 n.ports.length, .own (0, 27) 0 0 n.sts.length]]⟩), ((0, 8), ⟨0, 3, [[.own (0, 29) 1 0 n.segs.length, .own (0, 23) 0 0 n.ports.length, .own (0, 27) 0 0 n.sts.length]]⟩), ((0, 19), ⟨0, 1, (List.replicate n.segs.length 0).map iRow⟩), ((0, 23), ⟨0, 1, (List.replicate n.ports.length 0).map iRow⟩), ((0, 27), ⟨0, 1, (List.replicate n.sts.length false).map bRow⟩), ((0, 29), ⟨1, 1, R1.map iRow⟩)])
      (by simp (config := { maxSteps := 500000 }) only [↓vp, vv, implies_true, forall_const, undef, InI, ↓reduceIte, simprocAttr, coverS]) (by simp (config := { maxSteps := 500000 }) only [↓vp, vv, implies_true, forall_const, undef, InI, ↓reduceIte, simprocAttr, refsF]) (by simp (config := { maxSteps := 500000 }) only [↓vp, vv, implies_true, forall_const, undef, InI, ↓reduceIte, simprocAttr, iRow, bRow]) (by simp) (by simp (config := { maxSteps := 500000 }) only [↓vp, vv, implies_true, forall_const, undef, InI, ↓reduceIte, simprocAttr, hp_cons, hp_nil, netD]; try rfl)).trans
    (weak_fz [(0, 19), (0, 23), (0, 27), (0, 29)] [(0, 6), (0, 7), (0, 8)] (l := [(6, .ptr (0, 6) 0 0 0), (7, .ptr (0, 7) 0 0 0), (8, .ptr (0, 8) 0 0 0)]) (h := _) (l' := [(6, .ptr (0, 6) 0 0 0), (7, .ptr (0, 7) 0 0 0), (8, .ptr (0, 8) 0 0 0)]) (H' := ((Hp.none.put (0, 8) ⟨0, 3, [plnD ⟨R1, List.replicate n.ports.length 0, List.replicate n.sts.length false⟩]⟩).put (0, 7) ⟨0, 3, [plnD ⟨List.replicate n.segs.length 0, List.replicate n.ports.length 0, List.replicate n.sts.length false⟩]⟩).put (0, 6) ⟨0, 6, [netD n]⟩) (by simp (config := { maxSteps := 500000 }) only [↓vp, vv, implies_true, forall_const, undef, InI, ↓reduceIte, simprocAttr, vz, listB, okKd, okK, lendKd, lendK, lendOk1B, frzF, Option.map_some, cond_true, cond_false, decide_true, decide_false, Bool.and_self, r1, r2, r3, r4, l1, t1, t2, t3, netD, plnD, List.length_replicate]) (by simp (config := { maxSteps := 500000 }) only [↓vp, vv, implies_true, forall_const, undef, InI, ↓reduceIte, simprocAttr, vz, listB, okKd, okK, lendKd, lendK, lendOk1B, frzF, Option.map_some, cond_true, cond_false, decide_true, decide_false, Bool.and_self, r1, r2, r3, r4, l1, t1, t2, t3, netD, plnD, List.length_replicate]) (by simp (config := { maxSteps := 500000 }) only [↓vp, vv, implies_true, forall_const, undef, InI, ↓reduceIte, simprocAttr, vz, listB, okKd, okK, lendKd, lendK, lendOk1B, frzF, Option.map_some, cond_true, cond_false, decide_true, decide_false, Bool.and_self, r1, r2, r3, r4, l1, t1, t2, t3, netD, plnD, List.length_replicate]; try rfl) (by simp (config := { maxSteps := 500000 }) only [↓vp, vv, implies_true, forall_const, undef, InI, ↓reduceIte, simprocAttr, vz, listB, okKd, okK, lendKd, lendK, lendOk1B, frzF, Option.map_some, cond_true, cond_false, decide_true, decide_false, Bool.and_self, r1, r2, r3, r4, l1, t1, t2, t3, netD, plnD, List.length_replicate]; try rfl) (by simp (config := { maxSteps := 500000 }) only [↓vp, vv, implies_true, forall_const, undef, InI, ↓reduceIte, simprocAttr, vz, listB, okKd, okK, lendKd, lendK, lendOk1B, frzF, Option.map_some, cond_true, cond_false, decide_true, decide_false, Bool.and_self, refsF, r1, r2, r3, r4, l1, t1, t2, t3, netD, plnD, List.length_replicate]) (by simp (config := { maxSteps := 500000 }) only [↓vp, vv, implies_true, forall_const, undef, InI, ↓reduceIte, simprocAttr, vz, listB, okKd, okK, lendKd, lendK, lendOk1B, frzF, Option.map_some, cond_true, cond_false, decide_true, decide_false, Bool.and_self, r1, r2, r3, r4, l1, t1, t2, t3, netD, plnD, List.length_replicate]) (by simp))) ?_
  have hck := check_ok hn
  have hz : ∀ R Q U, R.length = n.segs.length → Q.length = n.ports.length → U.length = n.sts.length → FckPre n ⟨R, Q, U⟩ := fun R Q U a b c => ⟨net_sz hn, ⟨by dsimp only; omega, by dsimp only; omega, by dsimp only; omega⟩⟩
  have z0 : FckPre n (p0 n) := hz _ _ _ (by simp) (by simp) (by simp)
  have z1 := hz R1 (List.replicate n.ports.length 0) (List.replicate n.sts.length false) l1 (by simp) (by simp)
  have f0 := rest0 hck
  have o0 : ordR n (p0 n) = List.range n.nodes.length := by unfold ordR; rw [if_pos f0, rest_ord]
  have f1 := rest1 hck k hr
  rw [hR1] at f1
  have hn1 : netOf1 [D.sl (n.nodes.map nmRow), .sl (n.segs.map Seg.row), .sl (n.ports.map Port.row), .sl (n.sts.map Stn.row), di n.vap, di n.set] = some n := netOf1_row n
  have hp0 : plnOf1 [D.sl ((List.replicate n.segs.length 0).map iRow), .sl ((List.replicate n.ports.length 0).map iRow), .sl ((List.replicate n.sts.length false).map bRow)] = some (p0 n) := plnOf1_row (p0 n)
  have hp1 : plnOf1 [D.sl (R1.map iRow), .sl ((List.replicate n.ports.length 0).map iRow), .sl ((List.replicate n.sts.length false).map bRow)] = some ⟨R1, List.replicate n.ports.length 0, List.replicate n.sts.length false⟩ := plnOf1_row ⟨R1, List.replicate n.ports.length 0, List.replicate n.sts.length false⟩
  simp (config := { maxSteps := 500000 }) only [↓vp, vv, implies_true, forall_const, undef, InI, ↓reduceIte, simprocAttr, c7, r7, c7_1, c7_2, c7_3, c7_4, c7_5, TL0, selNP, netD, plnD, hn1, hp0, z0, f0, o0, List.length_range]
  refine rng_loop n.nodes.length (fun j => ⟨fr [(6, .ptr (0, 6) 0 0 0), (8, .ptr (0, 8) 0 0 0), (9, .sl ((List.range n.nodes.length).map nRow)), (10, di 0), (54, di n.nodes.length), (55, di j)], (Hp.none.put (0, 8) ⟨0, 3, [plnD ⟨R1, List.replicate n.ports.length 0, List.replicate n.sts.length false⟩]⟩).put (0, 6) ⟨0, 6, [netD n]⟩⟩) (fun _ => True) (weak_eq [] [(0, 6), (0, 8)] [(6, .ptr (0, 6) 0 0 0), (8, .ptr (0, 8) 0 0 0), (9, .sl ((List.range n.nodes.length).map nRow)), (10, di 0), (54, di n.nodes.length), (55, di 0)] (by simp (config := { maxSteps := 500000 }) only [↓vp, vv, implies_true, forall_const, undef, InI, ↓reduceIte, simprocAttr, coverS, netD, plnD]) (by simp (config := { maxSteps := 500000 }) only [↓vp, vv, implies_true, forall_const, undef, InI, ↓reduceIte, simprocAttr, refsF, netD, plnD]) (by simp (config := { maxSteps := 500000 }) only [↓vp, vv, implies_true, forall_const, undef, InI, ↓reduceIte, simprocAttr, netD, plnD]) (by simp) (by simp (config := { maxSteps := 500000 }) only [↓vp, vv, implies_true, forall_const, undef, InI, ↓reduceIte, simprocAttr, netD, plnD]; try rfl)) trivial (fun j hj _ => ?_) (fun _ => ?_)
  · have hj' : (j : Int) < n.nodes.length := by omega
    have hjn := idx_nn j
    have w1 := idx_next (j := j) (by omega)
    have hg : ((List.range n.nodes.length).map nRow).getD j [] = [di j] := by rw [getD_map nRow _ j (by rw [List.length_range]; exact hj), List.getElem_range]; rfl
    simp (config := { maxSteps := 500000 }) only [↓vp, vv, implies_true, forall_const, undef, InI, ↓reduceIte, simprocAttr, c7, r7, c7_1, c7_2, c7_3, c7_4, c7_5, netD, plnD, hj', hjn, Int.toNat_natCast, List.length_range, hg, bne_self_eq_false, w1]
    exact rng_next hj (weak_eq [] [(0, 6), (0, 8)] [(6, .ptr (0, 6) 0 0 0), (8, .ptr (0, 8) 0 0 0), (9, .sl ((List.range n.nodes.length).map nRow)), (10, di 0), (54, di n.nodes.length), (55, di (j + 1 : Nat))] (by simp (config := { maxSteps := 500000 }) only [↓vp, vv, implies_true, forall_const, undef, InI, ↓reduceIte, simprocAttr, coverS, netD, plnD, w1]) (by simp (config := { maxSteps := 500000 }) only [↓vp, vv, implies_true, forall_const, undef, InI, ↓reduceIte, simprocAttr, refsF, netD, plnD, w1]) (by simp (config := { maxSteps := 500000 }) only [↓vp, vv, implies_true, forall_const, undef, InI, ↓reduceIte, simprocAttr, netD, plnD, w1]) (by simp) (by simp (config := { maxSteps := 500000 }) only [↓vp, vv, implies_true, forall_const, undef, InI, ↓reduceIte, simprocAttr, netD, plnD, w1]; try rfl)) trivial
  · simp (config := { maxSteps := 500000 }) only [↓vp, vv, implies_true, forall_const, undef, InI, ↓reduceIte, simprocAttr, c7, r7, c7_1, c7_2, c7_3, c7_4, c7_5, TL0, selNP, selAw, netD, plnD, Int.lt_irrefl, List.length_range, hn1, hp1, z1, f1, Pu]
theorem FlowRest_law (a : Option Addr) (len cap : Nat) (which : Int) (w : World) (h : ArgInts w a len cap) (h0 : 0 ≤ which) (h1 : which ≤ 255) :
    Calls Try.prog 7 #[.slice a len cap, .int .u8 which] w (Ret (.bool true) w) := by
  refine law_ints (us := [.int .u8 which]) h fun ns hns => ?_
  have := FR_c ns hns which.toNat (by omega) (0, 0)
  rw [show ((which.toNat : Nat) : Int) = which by omega] at this
  exact this
end Go.Proofs.Ytiaenojpbiahgaa
