
/- Names of the reference; the names of a network. -/
import Derived.Test.YtkjibmfggeibjaaNm
import Derived.Test.YtkjibmfggeibjaaGen5
namespace Go.Proofs.Ytkjibmfggeibjaa
open Go
set_option linter.unusedVariables false
set_option linter.unusedSimpArgs false
set_option maxRecDepth 100000

set_option maxHeartbeats 4000000 in
theorem rname_c (s : ByteArray) (nn : Nm) : CallsA Try.prog 158 [ds s] Hp.none nn (Pu (db (nameB s)) Hp.none) := by
  obtain ⟨code, h1, h2⟩ := c158_ok
  refine callsA_of (T0_ok _) mixed (N := fun t => (0, t)) Try.func158 h1 h2 r158_ok [] false js_nil js_nil' (by simp [Try.f158]) ?_
  by_cases a1 : (s.size : Int) < 1
  · have b1 : s.size < 1 := by omega
    simp (config := { maxSteps := 500000 }) only [↓vp, vv, implies_true, forall_const, undef, InI, ↓reduceIte, simprocAttr, c158, r158, c158_1, c158_2, c158_3, c158_4, c158_5, a1, b1, nameB, Pu, decide_true, decide_false]
  · by_cases a2 : (12 : Int) < s.size
    · have b1 : ¬ s.size < 1 := by omega
      have b2 : 12 < s.size := by omega
      simp (config := { maxSteps := 500000 }) only [↓vp, vv, implies_true, forall_const, undef, InI, ↓reduceIte, simprocAttr, c158, r158, c158_1, c158_2, c158_3, c158_4, c158_5, a1, a2, b1, b2, nameB, Pu, decide_true, decide_false]
    · have b1 : ¬ s.size < 1 := by omega
      have b2 : ¬ 12 < s.size := by omega
      have b3 : (0 : Int) < s.size := by omega
      by_cases a3 : byteI s 0 < 97
      · have p0 : ¬ placeI (byteI s 0) = 1 := by unfold placeI; split <;> (try split) <;> (try split) <;> omega
        simp (config := { maxSteps := 500000 }) only [↓vp, vv, implies_true, forall_const, undef, InI, ↓reduceIte, simprocAttr, c158, r158, c158_1, c158_2, c158_3, c158_4, c158_5, a1, a2, a3, b1, b2, b3, p0, byteI_eq, nameB, Pu, decide_true, decide_false]
      by_cases a4 : 122 < byteI s 0
      · have p0 : ¬ placeI (byteI s 0) = 1 := by unfold placeI; split <;> (try split) <;> (try split) <;> omega
        simp (config := { maxSteps := 500000 }) only [↓vp, vv, implies_true, forall_const, undef, InI, ↓reduceIte, simprocAttr, c158, r158, c158_1, c158_2, c158_3, c158_4, c158_5, a1, a2, a3, a4, b1, b2, b3, p0, byteI_eq, nameB, Pu, decide_true, decide_false]
      have p0 : placeI (byteI s 0) = 1 := by unfold placeI; rw [if_pos (by omega)]
      have e0 : nameB s = (bytesI s).all (fun c => decide (placeI c ≠ 0)) := by unfold nameB; rw [if_neg b1, if_neg b2, if_pos p0]
      rw [e0]
      generalize hb : (bytesI s).all (fun c => decide (placeI c ≠ 0)) = b
      simp (config := { maxSteps := 500000 }) only [↓vp, vv, implies_true, forall_const, undef, InI, ↓reduceIte, simprocAttr, c158, c158_5, a1, a2, a3, a4, b3, byteI_eq, decide_true, decide_false]
      refine rng_loop s.size (fun j => ⟨fr [(0, ds s), (3, di j)], Hp.none⟩) (fun j => ((bytesI s).drop j).all (fun c => decide (placeI c ≠ 0)) = b) (weak0 (by simp (config := { maxSteps := 500000 }) only [↓vp, vv, implies_true, forall_const, undef, InI, ↓reduceIte, simprocAttr, coverS]) (by simp (config := { maxSteps := 500000 }) only [↓vp, vv, implies_true, forall_const, undef, InI, ↓reduceIte, simprocAttr, refsF])) hb (fun j hj he => ?_) (fun he => ?_)
      · have hj' : (j : Int) < s.size := by omega
        have hn := idx_nn j
        have w1 := idx_next (j := j) (by omega)
        obtain ⟨hf, ht⟩ := drop_all (by rw [bytesI_len]; exact hj) he
        rw [bytesI_at] at hf ht
        generalize hc : byteI s j = c at hf ht
        by_cases c1 : c < 97
        · by_cases c2 : c < 48
          · by_cases c3 : c = 45
            · have p0 : ¬ placeI c = 0 := by unfold placeI; split <;> (try split) <;> (try split) <;> omega
              have q : (c != 45) = false := by simp; omega
              simp (config := { maxSteps := 500000 }) only [↓vp, vv, implies_true, forall_const, undef, InI, ↓reduceIte, simprocAttr, c158, r158, c158_1, c158_2, c158_3, c158_4, c158_5, hj', hn, Int.toNat_natCast, byteI_eq, hc, w1, Pu, decide_true, decide_false, c1, c2, q]
              exact rng_next hj (weak0 (by simp (config := { maxSteps := 500000 }) only [↓vp, vv, implies_true, forall_const, undef, InI, ↓reduceIte, simprocAttr, coverS, w1]) (by simp (config := { maxSteps := 500000 }) only [↓vp, vv, implies_true, forall_const, undef, InI, ↓reduceIte, simprocAttr, refsF])) (ht (by simp [p0]))
            · have p0 : placeI c = 0 := by unfold placeI; rw [if_neg (by omega), if_neg (by omega), if_neg (by omega)]
              have e5 : b = false := hf (by simp [p0])
              subst e5
              have q : (c != 45) = true := by simp; omega
              simp (config := { maxSteps := 500000 }) only [↓vp, vv, implies_true, forall_const, undef, InI, ↓reduceIte, simprocAttr, c158, r158, c158_1, c158_2, c158_3, c158_4, c158_5, hj', hn, Int.toNat_natCast, byteI_eq, hc, w1, Pu, decide_true, decide_false, c1, c2, q]
          · by_cases c3 : 57 < c
            · have p0 : placeI c = 0 := by unfold placeI; rw [if_neg (by omega), if_neg (by omega), if_neg (by omega)]
              have e5 : b = false := hf (by simp [p0])
              subst e5
              have q : (c != 45) = true := by simp; omega
              simp (config := { maxSteps := 500000 }) only [↓vp, vv, implies_true, forall_const, undef, InI, ↓reduceIte, simprocAttr, c158, r158, c158_1, c158_2, c158_3, c158_4, c158_5, hj', hn, Int.toNat_natCast, byteI_eq, hc, w1, Pu, decide_true, decide_false, c1, c2, c3, q]
            · have p0 : ¬ placeI c = 0 := by unfold placeI; split <;> (try split) <;> (try split) <;> omega
              simp (config := { maxSteps := 500000 }) only [↓vp, vv, implies_true, forall_const, undef, InI, ↓reduceIte, simprocAttr, c158, r158, c158_1, c158_2, c158_3, c158_4, c158_5, hj', hn, Int.toNat_natCast, byteI_eq, hc, w1, Pu, decide_true, decide_false, c1, c2, c3]
              exact rng_next hj (weak0 (by simp (config := { maxSteps := 500000 }) only [↓vp, vv, implies_true, forall_const, undef, InI, ↓reduceIte, simprocAttr, coverS, w1]) (by simp (config := { maxSteps := 500000 }) only [↓vp, vv, implies_true, forall_const, undef, InI, ↓reduceIte, simprocAttr, refsF])) (ht (by simp [p0]))
        · by_cases c2 : 122 < c
          · have c3 : ¬ c < 48 := by omega
            have c4 : 57 < c := by omega
            have p0 : placeI c = 0 := by unfold placeI; rw [if_neg (by omega), if_neg (by omega), if_neg (by omega)]
            have e5 : b = false := hf (by simp [p0])
            subst e5
            have q : (c != 45) = true := by simp; omega
            simp (config := { maxSteps := 500000 }) only [↓vp, vv, implies_true, forall_const, undef, InI, ↓reduceIte, simprocAttr, c158, r158, c158_1, c158_2, c158_3, c158_4, c158_5, hj', hn, Int.toNat_natCast, byteI_eq, hc, w1, Pu, decide_true, decide_false, c1, c2, c3, c4, q]
          · have p0 : ¬ placeI c = 0 := by unfold placeI; split <;> (try split) <;> (try split) <;> omega
            simp (config := { maxSteps := 500000 }) only [↓vp, vv, implies_true, forall_const, undef, InI, ↓reduceIte, simprocAttr, c158, r158, c158_1, c158_2, c158_3, c158_4, c158_5, hj', hn, Int.toNat_natCast, byteI_eq, hc, w1, Pu, decide_true, decide_false, c1, c2]
            exact rng_next hj (weak0 (by simp (config := { maxSteps := 500000 }) only [↓vp, vv, implies_true, forall_const, undef, InI, ↓reduceIte, simprocAttr, coverS, w1]) (by simp (config := { maxSteps := 500000 }) only [↓vp, vv, implies_true, forall_const, undef, InI, ↓reduceIte, simprocAttr, refsF])) (ht (by simp [p0]))
      · have e5 : b = true := drop_all_end (by rw [bytesI_len]; exact he)
        subst e5
        simp (config := { maxSteps := 500000 }) only [↓vp, vv, implies_true, forall_const, undef, InI, ↓reduceIte, simprocAttr, c158, r158, c158_1, c158_2, c158_3, c158_4, c158_5, Int.lt_irrefl, Pu, decide_true, decide_false]
/-- The names of a network, by their kinds. -/
def nmsD (n : Net) : D := .agg [.sl (n.nodes.map nmRow), .sl ((n.segs.map (·.name)).map nmRow), .sl ((n.ports.map (·.name)).map nmRow), .sl ((n.sts.map (·.name)).map nmRow)]
def NmHp (n : Net) (g1 : Nat) (a : List ByteArray) (g2 : Nat) (b : List ByteArray) (g3 : Nat) (c : List ByteArray) : Hp :=
  (((((Hp.none.put (0, 1003) ⟨g3, 1, c.map nmRow⟩).put (0, 1002) ⟨g2, 1, b.map nmRow⟩).put (0, 1001) ⟨g1, 1, a.map nmRow⟩).put (0, 3) ⟨0, 4, [[.sl (n.nodes.map nmRow), .own (0, 1001) g1 0 a.length, .own (0, 1002) g2 0 b.length, .own (0, 1003) g3 0 c.length]]⟩).put (0, 2) ⟨0, 4, [[.mt, .mt, .mt, .mt]]⟩).put (0, 1) ⟨0, 6, [[.sl (n.nodes.map nmRow), .sl (n.segs.map Seg.row), .sl (n.ports.map Port.row), .sl (n.sts.map Stn.row), di n.vap, di n.set]]⟩
def NmFr (l : List (Nat × D)) : List (Nat × D) := (1, .ptr (0, 1) 0 0 0) :: (2, .ptr (0, 2) 0 0 0) :: (3, .ptr (0, 3) 0 0 0) :: l
theorem nm_own (n : Net) (J : List Nm) (F : Fr) : Weak J ⟨F, ((Hp.none.put (0, 3) ⟨0, 4, [[.sl (n.nodes.map nmRow), .mt, .mt, .mt]]⟩).put (0, 2) ⟨0, 4, [[.mt, .mt, .mt, .mt]]⟩).put (0, 1) ⟨0, 6, [[.sl (n.nodes.map nmRow), .sl (n.segs.map Seg.row), .sl (n.ports.map Port.row), .sl (n.sts.map Stn.row), di n.vap, di n.set]]⟩⟩ ⟨F, NmHp n 0 [] 0 [] 0 []⟩ := by
  refine (weak_ownC (0, 3) 0 4 [.sl (n.nodes.map nmRow)] [.mt, .mt] (0, 1001) 1 (by simp (config := { maxSteps := 500000 }) only [↓vp, vv, implies_true, forall_const, undef, InI, ↓reduceIte, simprocAttr, ]) (by simp (config := { maxSteps := 500000 }) only [↓vp, vv, implies_true, forall_const, undef, InI, ↓reduceIte, simprocAttr, ])).trans ?_
  refine (weak_ownC (0, 3) 0 4 [.sl (n.nodes.map nmRow), .own (0, 1001) 0 0 0] [.mt] (0, 1002) 1 (by simp (config := { maxSteps := 500000 }) only [↓vp, vv, implies_true, forall_const, undef, InI, ↓reduceIte, simprocAttr, ]) (by simp (config := { maxSteps := 500000 }) only [↓vp, vv, implies_true, forall_const, undef, InI, ↓reduceIte, simprocAttr, ])).trans ?_
  refine (weak_ownC (0, 3) 0 4 [.sl (n.nodes.map nmRow), .own (0, 1001) 0 0 0, .own (0, 1002) 0 0 0] [] (0, 1003) 1 (by simp (config := { maxSteps := 500000 }) only [↓vp, vv, implies_true, forall_const, undef, InI, ↓reduceIte, simprocAttr, ]) (by simp (config := { maxSteps := 500000 }) only [↓vp, vv, implies_true, forall_const, undef, InI, ↓reduceIte, simprocAttr, ])).trans ?_
  refine (Weak.refl _ _).trans (Eq.mp ?_ (Weak.refl J ⟨F, NmHp n 0 [] 0 [] 0 []⟩))
  congr 2
  funext j
  simp only [NmHp, hput_at, hno_at, List.map_nil, List.length_nil, List.nil_append, List.cons_append]
  by_cases h1 : j = (0, 1)
  · subst h1; simp
  · simp only [h1, if_false]
    by_cases h3 : j = (0, 3)
    · subst h3; simp
    · simp only [h3, if_false]
      by_cases h2 : j = (0, 2)
      · subst h2; simp
      · simp only [h2, if_false]
        by_cases k1 : j = (0, 1001)
        · subst k1; simp
        · simp only [k1, if_false]
          by_cases k2 : j = (0, 1002)
          · subst k2; simp
          · simp only [k2, if_false]
set_option maxHeartbeats 8000000 in
theorem pnames_c (n : Net) (hs : n.segs.length ≤ 1000000) (hp : n.ports.length ≤ 1000000) (ht : n.sts.length ≤ 1000000) (nn : Nm) : CallsA Try.prog 142 [n.enc] Hp.none nn (Pu (nmsD n) Hp.none) := by
  obtain ⟨code, h1, h2⟩ := c142_ok
  refine callsA_of (T0_ok _) mixed (N := fun t => (0, t)) Try.func142 h1 h2 r142_ok [] false js_nil js_nil' (by simp [Try.f142]) ?_
  simp (config := { maxSteps := 500000 }) only [↓vp, vv, implies_true, forall_const, undef, InI, ↓reduceIte, simprocAttr, c142, Net.enc]
  rw [vc_loop]
  refine ⟨fun m s => ∃ (j g : Nat), j + m = n.segs.length ∧ s = ⟨fr (NmFr [(14, .sl (n.segs.map Seg.row)), (15, di n.segs.length), (16, di j)]), NmHp n g ((n.segs.take j).map (·.name)) 0 [] 0 []⟩, ⟨n.segs.length, _, Weak.trans ?_ (nm_own n [] _), 0, 0, by omega, rfl⟩, ?_⟩
  · exact weak_eq [] [(0, 1), (0, 2), (0, 3)] (NmFr [(14, .sl (n.segs.map Seg.row)), (15, di n.segs.length), (16, di 0)]) (by simp (config := { maxSteps := 500000 }) only [↓vp, vv, implies_true, forall_const, undef, InI, ↓reduceIte, simprocAttr, coverS, NmFr]) (by simp (config := { maxSteps := 500000 }) only [↓vp, vv, implies_true, forall_const, undef, InI, ↓reduceIte, simprocAttr, refsF, NmFr]) (by simp (config := { maxSteps := 500000 }) only [↓vp, vv, implies_true, forall_const, undef, InI, ↓reduceIte, simprocAttr, ]) (by simp) (by simp (config := { maxSteps := 500000 }) only [↓vp, vv, implies_true, forall_const, undef, InI, ↓reduceIte, simprocAttr, ]; try rfl)
  rintro m s ⟨j, g1, hj, rfl⟩
  by_cases hlt : j < n.segs.length
  · have hlt' : (j : Int) < n.segs.length := by omega
    have hn := idx_nn j
    have hg := getD_map Seg.row n.segs j hlt
    have w1 := idx_next (j := j) (by omega)
    have htk : (n.segs.take (j + 1)).map (·.name) = (n.segs.take j).map (·.name) ++ [n.segs[j].name] := by rw [← List.take_append_getElem hlt, List.map_append]; rfl
    generalize n.segs[j] = x at hg htk
    have hlen : (n.segs.take j).length = j := by rw [List.length_take]; omega
    have hlen2 : (n.segs.take (j + 1)).length = j + 1 := by rw [List.length_take]; omega
    simp (config := { maxSteps := 500000 }) only [↓vp, vv, implies_true, forall_const, undef, InI, ↓reduceIte, simprocAttr, c142_2, c142_1, NmFr, NmHp, hlt', hn, Int.toNat_natCast, hg, Seg.row, nmRow, w1, hlen]
    refine ⟨⟨by omega, by omega⟩, m - 1, _, by omega, weak_eq [] [(0, 1), (0, 2), (0, 3), (0, 1001), (0, 1002), (0, 1003)] (NmFr [(14, .sl (n.segs.map Seg.row)), (15, di n.segs.length), (16, di (j + 1 : Nat))]) (by simp (config := { maxSteps := 500000 }) only [↓vp, vv, implies_true, forall_const, undef, InI, ↓reduceIte, simprocAttr, coverS, NmFr, Seg.row, w1]) (by simp (config := { maxSteps := 500000 }) only [↓vp, vv, implies_true, forall_const, undef, InI, ↓reduceIte, simprocAttr, refsF, NmFr]) (by simp (config := { maxSteps := 500000 }) only [↓vp, vv, implies_true, forall_const, undef, InI, ↓reduceIte, simprocAttr, NmHp, nmRow]) (by simp) (by simp (config := { maxSteps := 500000 }) only [↓vp, vv, implies_true, forall_const, undef, InI, ↓reduceIte, simprocAttr, NmHp, nmRow]; try rfl), j + 1, g1 + 1, by omega, ?_⟩
    simp only [htk, NmHp, NmFr, List.map_append, List.map_cons, List.map_nil, nmRow, List.length_append, List.length_map, hlen, hlen2, List.length_singleton, Seg.row]
  · have hlt' : ¬ (j : Int) < n.segs.length := by omega
    obtain rfl : j = n.segs.length := by omega
    simp only [List.take_length]
    simp (config := { maxSteps := 500000 }) only [↓vp, vv, implies_true, forall_const, undef, InI, ↓reduceIte, simprocAttr, c142_2, c142_9, NmFr, NmHp, hlt', Int.lt_irrefl]
    rw [vc_loop]
    refine ⟨fun m s => ∃ (j g : Nat), j + m = n.ports.length ∧ s = ⟨fr (NmFr [(29, .sl (n.ports.map Port.row)), (30, di n.ports.length), (31, di j)]), NmHp n g1 (n.segs.map (·.name)) g ((n.ports.take j).map (·.name)) 0 []⟩, ⟨n.ports.length, _, (weak_eq [] [(0, 1), (0, 2), (0, 3), (0, 1001), (0, 1002), (0, 1003)] (NmFr [(29, .sl (n.ports.map Port.row)), (30, di n.ports.length), (31, di 0)]) (by simp (config := { maxSteps := 500000 }) only [↓vp, vv, implies_true, forall_const, undef, InI, ↓reduceIte, simprocAttr, coverS, NmFr, NmHp]) (by simp (config := { maxSteps := 500000 }) only [↓vp, vv, implies_true, forall_const, undef, InI, ↓reduceIte, simprocAttr, refsF, NmFr]) (by simp (config := { maxSteps := 500000 }) only [↓vp, vv, implies_true, forall_const, undef, InI, ↓reduceIte, simprocAttr, NmHp, nmRow]) (by simp) (by simp (config := { maxSteps := 500000 }) only [↓vp, vv, implies_true, forall_const, undef, InI, ↓reduceIte, simprocAttr, NmHp]; try rfl)), 0, 0, by omega, by simp [NmHp]⟩, ?_⟩
    rintro m s ⟨j, g2, hj, rfl⟩
    by_cases hlt : j < n.ports.length
    · have hlt' : (j : Int) < n.ports.length := by omega
      have hn := idx_nn j
      have hg := getD_map Port.row n.ports j hlt
      have w1 := idx_next (j := j) (by omega)
      have htk : (n.ports.take (j + 1)).map (·.name) = (n.ports.take j).map (·.name) ++ [n.ports[j].name] := by rw [← List.take_append_getElem hlt, List.map_append]; rfl
      generalize n.ports[j] = x at hg htk
      have hlen : (n.ports.take j).length = j := by rw [List.length_take]; omega
      have hlen2 : (n.ports.take (j + 1)).length = j + 1 := by rw [List.length_take]; omega
      simp (config := { maxSteps := 500000 }) only [↓vp, vv, implies_true, forall_const, undef, InI, ↓reduceIte, simprocAttr, c142_4, c142_3, NmFr, NmHp, hlt', hn, Int.toNat_natCast, hg, Port.row, nmRow, w1, hlen]
      refine ⟨⟨by omega, by omega⟩, m - 1, _, by omega, weak_eq [] [(0, 1), (0, 2), (0, 3), (0, 1001), (0, 1002), (0, 1003)] (NmFr [(29, .sl (n.ports.map Port.row)), (30, di n.ports.length), (31, di (j + 1 : Nat))]) (by simp (config := { maxSteps := 500000 }) only [↓vp, vv, implies_true, forall_const, undef, InI, ↓reduceIte, simprocAttr, coverS, NmFr, Port.row, w1]) (by simp (config := { maxSteps := 500000 }) only [↓vp, vv, implies_true, forall_const, undef, InI, ↓reduceIte, simprocAttr, refsF, NmFr]) (by simp (config := { maxSteps := 500000 }) only [↓vp, vv, implies_true, forall_const, undef, InI, ↓reduceIte, simprocAttr, NmHp, nmRow]) (by simp) (by simp (config := { maxSteps := 500000 }) only [↓vp, vv, implies_true, forall_const, undef, InI, ↓reduceIte, simprocAttr, NmHp, nmRow]; try rfl), j + 1, g2 + 1, by omega, ?_⟩
      simp only [htk, NmHp, NmFr, List.map_append, List.map_cons, List.map_nil, nmRow, List.length_append, List.length_map, hlen, hlen2, List.length_singleton, Port.row]
    · have hlt' : ¬ (j : Int) < n.ports.length := by omega
      obtain rfl : j = n.ports.length := by omega
      simp only [List.take_length]
      simp (config := { maxSteps := 500000 }) only [↓vp, vv, implies_true, forall_const, undef, InI, ↓reduceIte, simprocAttr, c142_4, c142_8, NmFr, NmHp, hlt', Int.lt_irrefl]
      rw [vc_loop]
      refine ⟨fun m s => ∃ (j g : Nat), j + m = n.sts.length ∧ s = ⟨fr (NmFr [(44, .sl (n.sts.map Stn.row)), (45, di n.sts.length), (46, di j)]), NmHp n g1 (n.segs.map (·.name)) g2 (n.ports.map (·.name)) g ((n.sts.take j).map (·.name))⟩, ⟨n.sts.length, _, (weak_eq [] [(0, 1), (0, 2), (0, 3), (0, 1001), (0, 1002), (0, 1003)] (NmFr [(44, .sl (n.sts.map Stn.row)), (45, di n.sts.length), (46, di 0)]) (by simp (config := { maxSteps := 500000 }) only [↓vp, vv, implies_true, forall_const, undef, InI, ↓reduceIte, simprocAttr, coverS, NmFr, NmHp]) (by simp (config := { maxSteps := 500000 }) only [↓vp, vv, implies_true, forall_const, undef, InI, ↓reduceIte, simprocAttr, refsF, NmFr]) (by simp (config := { maxSteps := 500000 }) only [↓vp, vv, implies_true, forall_const, undef, InI, ↓reduceIte, simprocAttr, NmHp, nmRow]) (by simp) (by simp (config := { maxSteps := 500000 }) only [↓vp, vv, implies_true, forall_const, undef, InI, ↓reduceIte, simprocAttr, NmHp]; try rfl)), 0, 0, by omega, by simp [NmHp]⟩, ?_⟩
      rintro m s ⟨j, g3, hj, rfl⟩
      by_cases hlt : j < n.sts.length
      · have hlt' : (j : Int) < n.sts.length := by omega
        have hn := idx_nn j
        have hg := getD_map Stn.row n.sts j hlt
        have w1 := idx_next (j := j) (by omega)
        have htk : (n.sts.take (j + 1)).map (·.name) = (n.sts.take j).map (·.name) ++ [n.sts[j].name] := by rw [← List.take_append_getElem hlt, List.map_append]; rfl
        generalize n.sts[j] = x at hg htk
        have hlen : (n.sts.take j).length = j := by rw [List.length_take]; omega
        have hlen2 : (n.sts.take (j + 1)).length = j + 1 := by rw [List.length_take]; omega
        simp (config := { maxSteps := 500000 }) only [↓vp, vv, implies_true, forall_const, undef, InI, ↓reduceIte, simprocAttr, c142_6, c142_5, NmFr, NmHp, hlt', hn, Int.toNat_natCast, hg, Stn.row, nmRow, w1, hlen]
        refine ⟨⟨by omega, by omega⟩, m - 1, _, by omega, weak_eq [] [(0, 1), (0, 2), (0, 3), (0, 1001), (0, 1002), (0, 1003)] (NmFr [(44, .sl (n.sts.map Stn.row)), (45, di n.sts.length), (46, di (j + 1 : Nat))]) (by simp (config := { maxSteps := 500000 }) only [↓vp, vv, implies_true, forall_const, undef, InI, ↓reduceIte, simprocAttr, coverS, NmFr, Stn.row, w1]) (by simp (config := { maxSteps := 500000 }) only [↓vp, vv, implies_true, forall_const, undef, InI, ↓reduceIte, simprocAttr, refsF, NmFr]) (by simp (config := { maxSteps := 500000 }) only [↓vp, vv, implies_true, forall_const, undef, InI, ↓reduceIte, simprocAttr, NmHp, nmRow]) (by simp) (by simp (config := { maxSteps := 500000 }) only [↓vp, vv, implies_true, forall_const, undef, InI, ↓reduceIte, simprocAttr, NmHp, nmRow]; try rfl), j + 1, g3 + 1, by omega, ?_⟩
        simp only [htk, NmHp, NmFr, List.map_append, List.map_cons, List.map_nil, nmRow, List.length_append, List.length_map, hlen, hlen2, List.length_singleton, Stn.row]
      · have hlt' : ¬ (j : Int) < n.sts.length := by omega
        obtain rfl : j = n.sts.length := by omega
        simp only [List.take_length]
        simp (config := { maxSteps := 500000 }) only [↓vp, vv, implies_true, forall_const, undef, InI, ↓reduceIte, simprocAttr, c142_6, c142_7, r142, NmFr, NmHp, hlt', Int.lt_irrefl, nmRow, nmsD, Pu]
        simp [List.take_of_length_le]
set_option maxHeartbeats 8000000 in
theorem rnames_c (n : Net) (hs : n.segs.length ≤ 1000000) (hp : n.ports.length ≤ 1000000) (ht : n.sts.length ≤ 1000000) (nn : Nm) : CallsA Try.prog 157 [n.enc] Hp.none nn (Pu (nmsD n) Hp.none) := by
  obtain ⟨code, h1, h2⟩ := c157_ok
  refine callsA_of (T0_ok _) mixed (N := fun t => (0, t)) Try.func157 h1 h2 r157_ok [] false js_nil js_nil' (by simp [Try.f157]) ?_
  simp (config := { maxSteps := 500000 }) only [↓vp, vv, implies_true, forall_const, undef, InI, ↓reduceIte, simprocAttr, c157, Net.enc]
  rw [vc_loop]
  refine ⟨fun m s => ∃ (j g : Nat), j + m = n.segs.length ∧ s = ⟨fr (NmFr [(14, .sl (n.segs.map Seg.row)), (15, di n.segs.length), (16, di j)]), NmHp n g ((n.segs.take j).map (·.name)) 0 [] 0 []⟩, ⟨n.segs.length, _, Weak.trans ?_ (nm_own n [] _), 0, 0, by omega, rfl⟩, ?_⟩
  · exact weak_eq [] [(0, 1), (0, 2), (0, 3)] (NmFr [(14, .sl (n.segs.map Seg.row)), (15, di n.segs.length), (16, di 0)]) (by simp (config := { maxSteps := 500000 }) only [↓vp, vv, implies_true, forall_const, undef, InI, ↓reduceIte, simprocAttr, coverS, NmFr]) (by simp (config := { maxSteps := 500000 }) only [↓vp, vv, implies_true, forall_const, undef, InI, ↓reduceIte, simprocAttr, refsF, NmFr]) (by simp (config := { maxSteps := 500000 }) only [↓vp, vv, implies_true, forall_const, undef, InI, ↓reduceIte, simprocAttr, ]) (by simp) (by simp (config := { maxSteps := 500000 }) only [↓vp, vv, implies_true, forall_const, undef, InI, ↓reduceIte, simprocAttr, ]; try rfl)
  rintro m s ⟨j, g1, hj, rfl⟩
  by_cases hlt : j < n.segs.length
  · have hlt' : (j : Int) < n.segs.length := by omega
    have hn := idx_nn j
    have hg := getD_map Seg.row n.segs j hlt
    have w1 := idx_next (j := j) (by omega)
    have htk : (n.segs.take (j + 1)).map (·.name) = (n.segs.take j).map (·.name) ++ [n.segs[j].name] := by rw [← List.take_append_getElem hlt, List.map_append]; rfl
    generalize n.segs[j] = x at hg htk
    have hlen : (n.segs.take j).length = j := by rw [List.length_take]; omega
    have hlen2 : (n.segs.take (j + 1)).length = j + 1 := by rw [List.length_take]; omega
    simp (config := { maxSteps := 500000 }) only [↓vp, vv, implies_true, forall_const, undef, InI, ↓reduceIte, simprocAttr, c157_2, c157_1, NmFr, NmHp, hlt', hn, Int.toNat_natCast, hg, Seg.row, nmRow, w1, hlen]
    refine ⟨⟨by omega, by omega⟩, m - 1, _, by omega, weak_eq [] [(0, 1), (0, 2), (0, 3), (0, 1001), (0, 1002), (0, 1003)] (NmFr [(14, .sl (n.segs.map Seg.row)), (15, di n.segs.length), (16, di (j + 1 : Nat))]) (by simp (config := { maxSteps := 500000 }) only [↓vp, vv, implies_true, forall_const, undef, InI, ↓reduceIte, simprocAttr, coverS, NmFr, Seg.row, w1]) (by simp (config := { maxSteps := 500000 }) only [↓vp, vv, implies_true, forall_const, undef, InI, ↓reduceIte, simprocAttr, refsF, NmFr]) (by simp (config := { maxSteps := 500000 }) only [↓vp, vv, implies_true, forall_const, undef, InI, ↓reduceIte, simprocAttr, NmHp, nmRow]) (by simp) (by simp (config := { maxSteps := 500000 }) only [↓vp, vv, implies_true, forall_const, undef, InI, ↓reduceIte, simprocAttr, NmHp, nmRow]; try rfl), j + 1, g1 + 1, by omega, ?_⟩
    simp only [htk, NmHp, NmFr, List.map_append, List.map_cons, List.map_nil, nmRow, List.length_append, List.length_map, hlen, hlen2, List.length_singleton, Seg.row]
  · have hlt' : ¬ (j : Int) < n.segs.length := by omega
    obtain rfl : j = n.segs.length := by omega
    simp only [List.take_length]
    simp (config := { maxSteps := 500000 }) only [↓vp, vv, implies_true, forall_const, undef, InI, ↓reduceIte, simprocAttr, c157_2, c157_9, NmFr, NmHp, hlt', Int.lt_irrefl]
    rw [vc_loop]
    refine ⟨fun m s => ∃ (j g : Nat), j + m = n.ports.length ∧ s = ⟨fr (NmFr [(29, .sl (n.ports.map Port.row)), (30, di n.ports.length), (31, di j)]), NmHp n g1 (n.segs.map (·.name)) g ((n.ports.take j).map (·.name)) 0 []⟩, ⟨n.ports.length, _, (weak_eq [] [(0, 1), (0, 2), (0, 3), (0, 1001), (0, 1002), (0, 1003)] (NmFr [(29, .sl (n.ports.map Port.row)), (30, di n.ports.length), (31, di 0)]) (by simp (config := { maxSteps := 500000 }) only [↓vp, vv, implies_true, forall_const, undef, InI, ↓reduceIte, simprocAttr, coverS, NmFr, NmHp]) (by simp (config := { maxSteps := 500000 }) only [↓vp, vv, implies_true, forall_const, undef, InI, ↓reduceIte, simprocAttr, refsF, NmFr]) (by simp (config := { maxSteps := 500000 }) only [↓vp, vv, implies_true, forall_const, undef, InI, ↓reduceIte, simprocAttr, NmHp, nmRow]) (by simp) (by simp (config := { maxSteps := 500000 }) only [↓vp, vv, implies_true, forall_const, undef, InI, ↓reduceIte, simprocAttr, NmHp]; try rfl)), 0, 0, by omega, by simp [NmHp]⟩, ?_⟩
    rintro m s ⟨j, g2, hj, rfl⟩
    by_cases hlt : j < n.ports.length
    · have hlt' : (j : Int) < n.ports.length := by omega
      have hn := idx_nn j
      have hg := getD_map Port.row n.ports j hlt
      have w1 := idx_next (j := j) (by omega)
      have htk : (n.ports.take (j + 1)).map (·.name) = (n.ports.take j).map (·.name) ++ [n.ports[j].name] := by rw [← List.take_append_getElem hlt, List.map_append]; rfl
      generalize n.ports[j] = x at hg htk
      have hlen : (n.ports.take j).length = j := by rw [List.length_take]; omega
      have hlen2 : (n.ports.take (j + 1)).length = j + 1 := by rw [List.length_take]; omega
      simp (config := { maxSteps := 500000 }) only [↓vp, vv, implies_true, forall_const, undef, InI, ↓reduceIte, simprocAttr, c157_4, c157_3, NmFr, NmHp, hlt', hn, Int.toNat_natCast, hg, Port.row, nmRow, w1, hlen]
      refine ⟨⟨by omega, by omega⟩, m - 1, _, by omega, weak_eq [] [(0, 1), (0, 2), (0, 3), (0, 1001), (0, 1002), (0, 1003)] (NmFr [(29, .sl (n.ports.map Port.row)), (30, di n.ports.length), (31, di (j + 1 : Nat))]) (by simp (config := { maxSteps := 500000 }) only [↓vp, vv, implies_true, forall_const, undef, InI, ↓reduceIte, simprocAttr, coverS, NmFr, Port.row, w1]) (by simp (config := { maxSteps := 500000 }) only [↓vp, vv, implies_true, forall_const, undef, InI, ↓reduceIte, simprocAttr, refsF, NmFr]) (by simp (config := { maxSteps := 500000 }) only [↓vp, vv, implies_true, forall_const, undef, InI, ↓reduceIte, simprocAttr, NmHp, nmRow]) (by simp) (by simp (config := { maxSteps := 500000 }) only [↓vp, vv, implies_true, forall_const, undef, InI, ↓reduceIte, simprocAttr, NmHp, nmRow]; try rfl), j + 1, g2 + 1, by omega, ?_⟩
      simp only [htk, NmHp, NmFr, List.map_append, List.map_cons, List.map_nil, nmRow, List.length_append, List.length_map, hlen, hlen2, List.length_singleton, Port.row]
    · have hlt' : ¬ (j : Int) < n.ports.length := by omega
      obtain rfl : j = n.ports.length := by omega
      simp only [List.take_length]
      simp (config := { maxSteps := 500000 }) only [↓vp, vv, implies_true, forall_const, undef, InI, ↓reduceIte, simprocAttr, c157_4, c157_8, NmFr, NmHp, hlt', Int.lt_irrefl]
      rw [vc_loop]
      refine ⟨fun m s => ∃ (j g : Nat), j + m = n.sts.length ∧ s = ⟨fr (NmFr [(44, .sl (n.sts.map Stn.row)), (45, di n.sts.length), (46, di j)]), NmHp n g1 (n.segs.map (·.name)) g2 (n.ports.map (·.name)) g ((n.sts.take j).map (·.name))⟩, ⟨n.sts.length, _, (weak_eq [] [(0, 1), (0, 2), (0, 3), (0, 1001), (0, 1002), (0, 1003)] (NmFr [(44, .sl (n.sts.map Stn.row)), (45, di n.sts.length), (46, di 0)]) (by simp (config := { maxSteps := 500000 }) only [↓vp, vv, implies_true, forall_const, undef, InI, ↓reduceIte, simprocAttr, coverS, NmFr, NmHp]) (by simp (config := { maxSteps := 500000 }) only [↓vp, vv, implies_true, forall_const, undef, InI, ↓reduceIte, simprocAttr, refsF, NmFr]) (by simp (config := { maxSteps := 500000 }) only [↓vp, vv, implies_true, forall_const, undef, InI, ↓reduceIte, simprocAttr, NmHp, nmRow]) (by simp) (by simp (config := { maxSteps := 500000 }) only [↓vp, vv, implies_true, forall_const, undef, InI, ↓reduceIte, simprocAttr, NmHp]; try rfl)), 0, 0, by omega, by simp [NmHp]⟩, ?_⟩
      rintro m s ⟨j, g3, hj, rfl⟩
      by_cases hlt : j < n.sts.length
      · have hlt' : (j : Int) < n.sts.length := by omega
        have hn := idx_nn j
        have hg := getD_map Stn.row n.sts j hlt
        have w1 := idx_next (j := j) (by omega)
        have htk : (n.sts.take (j + 1)).map (·.name) = (n.sts.take j).map (·.name) ++ [n.sts[j].name] := by rw [← List.take_append_getElem hlt, List.map_append]; rfl
        generalize n.sts[j] = x at hg htk
        have hlen : (n.sts.take j).length = j := by rw [List.length_take]; omega
        have hlen2 : (n.sts.take (j + 1)).length = j + 1 := by rw [List.length_take]; omega
        simp (config := { maxSteps := 500000 }) only [↓vp, vv, implies_true, forall_const, undef, InI, ↓reduceIte, simprocAttr, c157_6, c157_5, NmFr, NmHp, hlt', hn, Int.toNat_natCast, hg, Stn.row, nmRow, w1, hlen]
        refine ⟨⟨by omega, by omega⟩, m - 1, _, by omega, weak_eq [] [(0, 1), (0, 2), (0, 3), (0, 1001), (0, 1002), (0, 1003)] (NmFr [(44, .sl (n.sts.map Stn.row)), (45, di n.sts.length), (46, di (j + 1 : Nat))]) (by simp (config := { maxSteps := 500000 }) only [↓vp, vv, implies_true, forall_const, undef, InI, ↓reduceIte, simprocAttr, coverS, NmFr, Stn.row, w1]) (by simp (config := { maxSteps := 500000 }) only [↓vp, vv, implies_true, forall_const, undef, InI, ↓reduceIte, simprocAttr, refsF, NmFr]) (by simp (config := { maxSteps := 500000 }) only [↓vp, vv, implies_true, forall_const, undef, InI, ↓reduceIte, simprocAttr, NmHp, nmRow]) (by simp) (by simp (config := { maxSteps := 500000 }) only [↓vp, vv, implies_true, forall_const, undef, InI, ↓reduceIte, simprocAttr, NmHp, nmRow]; try rfl), j + 1, g3 + 1, by omega, ?_⟩
        simp only [htk, NmHp, NmFr, List.map_append, List.map_cons, List.map_nil, nmRow, List.length_append, List.length_map, hlen, hlen2, List.length_singleton, Stn.row]
      · have hlt' : ¬ (j : Int) < n.sts.length := by omega
        obtain rfl : j = n.sts.length := by omega
        simp only [List.take_length]
        simp (config := { maxSteps := 500000 }) only [↓vp, vv, implies_true, forall_const, undef, InI, ↓reduceIte, simprocAttr, c157_6, c157_7, r157, NmFr, NmHp, hlt', Int.lt_irrefl, nmRow, nmsD, Pu]
        simp [List.take_of_length_le]
end Go.Proofs.Ytkjibmfggeibjaa
