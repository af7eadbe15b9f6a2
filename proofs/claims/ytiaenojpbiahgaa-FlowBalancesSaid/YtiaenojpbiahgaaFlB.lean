
/- FlowBalances: the plain law and the walk. -/
import Derived.Test.YtiaenojpbiahgaaFlP
import Derived.Test.YtiaenojpbiahgaaCodeFB
import Derived.Test.YtiaenojpbiahgaaBridge
namespace Go.Proofs.Ytiaenojpbiahgaa
open Go
set_option linter.unusedVariables false
set_option linter.unusedSimpArgs false
set_option maxRecDepth 100000

/-- A number that is counted at its own place alone. -/
theorem sum_pick (x r : Int) : ∀ N : Nat, sumI (fun v : Nat => if x = (v : Int) then r else 0) (List.range N) = if 0 ≤ x ∧ x < N then r else 0
  | 0 => by rw [if_neg (by omega)]; rfl
  | N + 1 => by
    rw [List.range_succ, sumI_snoc, sum_pick x r N]
    by_cases h : x = (N : Int)
    · rw [if_pos h, if_neg (by omega), if_pos (by omega)]; omega
    · rw [if_neg h]
      by_cases h2 : 0 ≤ x ∧ x < N
      · rw [if_pos h2, if_pos (by omega)]; omega
      · rw [if_neg h2, if_neg (by omega)]; omega
def InN (N : Nat) (x : Int) : Prop := 0 ≤ x ∧ x < N
theorem net_all (N : Nat) (t : Fl) : sumI (fun v : Nat => netOf (v : Int) t) (List.range N) = (if 0 ≤ t.2.1 ∧ t.2.1 < N then t.2.2 else 0) - (if 0 ≤ t.1 ∧ t.1 < N then t.2.2 else 0) := by
  rw [← sum_pick, ← sum_pick, sumI_sub]
  rfl
theorem come_all (N : Nat) (t : Fl) : sumI (fun v : Nat => comeOf (v : Int) t) (List.range N) = if t.2.2 < 0 then (if 0 ≤ t.1 ∧ t.1 < N then -t.2.2 else 0) else (if 0 ≤ t.2.1 ∧ t.2.1 < N then t.2.2 else 0) := by
  by_cases h : t.2.2 < 0
  · rw [if_pos h, ← sum_pick]
    exact sumI_congr fun v _ => by unfold comeOf; rw [if_pos h]
  · rw [if_neg h, ← sum_pick]
    exact sumI_congr fun v _ => by unfold comeOf; rw [if_neg h]
theorem zip_r {α : Type} (g : α → Int → Fl) (f : Int → Int) (hg : ∀ a r, (g a r).2.2 = r) : ∀ (l : List α) (m : List Int), l.length = m.length → sumI (fun t => f t.2.2) (List.zipWith g l m) = sumI f m
  | [], [], _ => rfl
  | a :: l, r :: m, h => by
    rw [List.zipWith_cons_cons, sumI, sumI, zip_r g f hg l m (by simpa using h), hg]
theorem seg_mem {n : Net} {R : List Int} {t : Fl} (h : t ∈ List.zipWith segFl n.segs R) : ∃ s ∈ n.segs, t = (s.fr, s.to, t.2.2) := by
  rw [← List.map_uncurry_zip_eq_zipWith] at h
  obtain ⟨x, hx, rfl⟩ := List.mem_map.1 h
  exact ⟨x.1, (List.of_mem_zip hx).1, rfl⟩
theorem port_mem {n : Net} {R : List Int} {t : Fl} (h : t ∈ List.zipWith portFl n.ports R) : ∃ s ∈ n.ports, t = (-1, s.node, t.2.2) := by
  rw [← List.map_uncurry_zip_eq_zipWith] at h
  obtain ⟨x, hx, rfl⟩ := List.mem_map.1 h
  exact ⟨x.1, (List.of_mem_zip hx).1, rfl⟩
/-- What flows in flows out. -/
theorem in_out {n : Net} {p : Pln} (hv : NetV n) (hl : p.ports.length = n.ports.length) (hb : ∀ v : Nat, sumI (netOf (v : Int)) (flowsOf n p) = 0) : sumI posI p.ports = sumI negI p.ports := by
  have h1 : sumI (fun v : Nat => sumI (netOf (v : Int)) (flowsOf n p)) (List.range n.nodes.length) = 0 := sumI_zero fun v _ => hb v
  have h2 := sumI_swap (fun (t : Fl) (v : Nat) => netOf (v : Int) t) (flowsOf n p) (List.range n.nodes.length)
  have e0 : ∀ v : Nat, (fun t : Fl => netOf (v : Int) t) = netOf (v : Int) := fun _ => rfl
  rw [h1] at h2
  unfold flowsOf at h2
  rw [sumI_app] at h2
  have h3 : sumI (fun t : Fl => sumI (fun v : Nat => netOf (v : Int) t) (List.range n.nodes.length)) (List.zipWith segFl n.segs p.rates) = 0 := sumI_zero fun t ht => by
    obtain ⟨s, hs, e⟩ := seg_mem ht
    have := hv.se s hs
    rw [net_all, e]
    dsimp only
    rw [if_pos ⟨this.2.1.1, this.2.1.2⟩, if_pos ⟨this.1.1, this.1.2⟩]
    omega
  have h4 : sumI (fun t : Fl => sumI (fun v : Nat => netOf (v : Int) t) (List.range n.nodes.length)) (List.zipWith portFl n.ports p.ports) = sumI (fun r => r) p.ports := by
    rw [← zip_r portFl (fun r => r) (fun _ _ => rfl) n.ports p.ports hl.symm]
    refine sumI_congr fun t ht => ?_
    obtain ⟨s, hs, e⟩ := port_mem ht
    have := hv.pe s hs
    rw [net_all, e]
    dsimp only
    rw [if_pos ⟨this.1, this.2⟩, if_neg (by omega)]
    omega
  have h5 : sumI posI p.ports - sumI negI p.ports = sumI (fun r => r) p.ports := by
    rw [sumI_sub]
    exact sumI_congr fun r _ => by unfold posI negI; split <;> split <;> omega
  rw [h3, h4] at h2
  omega
theorem come_sum {n : Net} {p : Pln} (hv : NetV n) (h1 : p.rates.length = n.segs.length) (h2 : p.ports.length = n.ports.length) : sumI (fun v : Nat => sumI (comeOf (v : Int)) (flowsOf n p)) (List.range n.nodes.length) = sumI absI p.rates + sumI posI p.ports := by
  have h3 := sumI_swap (fun (t : Fl) (v : Nat) => comeOf (v : Int) t) (flowsOf n p) (List.range n.nodes.length)
  refine h3.trans ?_
  unfold flowsOf
  rw [sumI_app]
  congr 1
  · rw [← zip_r segFl absI (fun _ _ => rfl) n.segs p.rates h1.symm]
    refine sumI_congr fun t ht => ?_
    obtain ⟨s, hs, e⟩ := seg_mem ht
    have := hv.se s hs
    show sumI (fun v : Nat => comeOf (v : Int) t) (List.range n.nodes.length) = _
    rw [come_all, e]
    dsimp only
    unfold absI
    by_cases h : t.2.2 < 0
    · rw [if_pos h, if_pos ⟨this.1.1, this.1.2⟩, if_pos (by omega)]
    · rw [if_neg h, if_pos ⟨this.2.1.1, this.2.1.2⟩, if_neg (by omega)]
  · rw [← zip_r portFl posI (fun _ _ => rfl) n.ports p.ports h2.symm]
    refine sumI_congr fun t ht => ?_
    obtain ⟨s, hs, e⟩ := port_mem ht
    have := hv.pe s hs
    show sumI (fun v : Nat => comeOf (v : Int) t) (List.range n.nodes.length) = _
    rw [come_all, e]
    dsimp only
    unfold posI
    by_cases h : t.2.2 < 0
    · rw [if_pos h, if_neg (by omega), if_neg (by omega)]
    · rw [if_neg h, if_pos ⟨this.1, this.2⟩]
      split <;> omega
def BHp (n : Net) (p : Pln) : Hp := (Hp.none.put (0, 5) ⟨0, 3, [plnD p]⟩).put (0, 4) ⟨0, 6, [netD n]⟩
theorem range_take (N j : Nat) (h : j < N) : List.range (j + 1) = List.range j ++ [j] := List.range_succ
set_option maxHeartbeats 16000000 in
theorem FB_c (ns : List Int) (hns : ∀ n ∈ ns, InI n) (nn : Nm) : CallsA Try.prog 11 [.sl (ns.map fun n => [di n])] Hp.none nn (Pu (db true) Hp.none) := by
  obtain ⟨code, h1, h2⟩ := c11_ok
  refine callsA_of TL1_ok mixed (N := fun t => (0, t)) Try.func11 h1 h2 r11_ok [] false js_nil js_nil' (by simp [Try.f11]) ?_
  have ho : SrcOk ((ns.map fun n => [di n]).take 2000) 0 := src_new ns hns
  simp (config := { maxSteps := 500000 }) only [↓vp, vv, implies_true, forall_const, undef, InI, ↓reduceIte, simprocAttr, c11, TL1, rowNew, sel0, ho, Net.enc]
  intro a1 n hn
  have hck := check_ok hn
  have hv := check0 hck
  have hnl := hv.nl
  have hpp := ports1 hn
  have hn1 : netOf1 [D.sl (n.nodes.map nmRow), .sl (n.segs.map Seg.row), .sl (n.ports.map Port.row), .sl (n.sts.map Stn.row), di n.vap, di n.set] = some n := netOf1_row n
  simp (config := { maxSteps := 500000 }) only [↓vp, vv, implies_true, forall_const, undef, InI, ↓reduceIte, simprocAttr, TL1, selPlan, hn1, hv, hpp, a1.2, Pln.enc, plnD]
  intro a2 p hp
  have hz := plan_sz hn hp
  have f0 := plan0 hck hp
  have hp1 : plnOf1 [D.sl (p.rates.map iRow), .sl (p.ports.map iRow), .sl (p.pumps.map bRow)] = some p := plnOf1_row p
  have hio := in_out hv hp.ql hp.bal
  have hfe : feedI n p = (sumI posI p.ports, sumI posI p.ports) := by unfold feedI; rw [if_pos f0, hio]
  have hps := sum_b hp.qb
  have hin := hps.1.1
  have hin2 : ¬ sumI posI p.ports < 0 := by omega
  have hfl := (fck0 f0).fl
  have hT : (flowsOf n p).length ≤ 1000 := by
    unfold flowsOf
    rw [List.length_append, List.length_zipWith, List.length_zipWith]
    have := hv.sl
    have := hv.ql
    omega
  have hcb : ∀ v : Nat, 0 ≤ sumI (comeOf (v : Int)) (flowsOf n p) ∧ sumI (comeOf (v : Int)) (flowsOf n p) ≤ 1000000 := fun v => by
    have a := sumI_nn (f := comeOf (v : Int)) (l := flowsOf n p) fun x _ => come_nn _ x
    have b := sumI_le (f := comeOf (v : Int)) 1000 (l := flowsOf n p) fun x hx => come_le (hfl.fl x hx).2.2
    omega
  have hcs := come_sum hv hp.rl hp.ql
  have hthr : ∀ j : Nat, j < n.nodes.length → thrI n p j = (sumI (comeOf (j : Int)) (flowsOf n p), 0) := fun j hj => by
    unfold thrI
    rw [if_pos f0, if_neg (by omega), if_neg (by omega)]
  generalize hC : (fun v : Nat => sumI (comeOf (v : Int)) (flowsOf n p)) = C at hcs
  have hCb : ∀ v, 0 ≤ C v ∧ C v ≤ 1000000 := fun v => by rw [← hC]; exact hcb v
  have hthr2 : ∀ j : Nat, j < n.nodes.length → thrI n p j = (C j, 0) := fun j hj => by rw [hthr j hj, ← hC]
  have hCs : ∀ j, 0 ≤ sumI C (List.range j) ∧ sumI C (List.range j) ≤ 1000000 * j := fun j => by
    have a := sumI_nn (f := C) (l := List.range j) fun x _ => (hCb x).1
    have b := sumI_le (f := C) 1000000 (l := List.range j) fun x _ => (hCb x).2
    rw [List.length_range] at b
    exact ⟨a, b⟩
  simp (config := { maxSteps := 500000 }) only [↓vp, vv, implies_true, forall_const, undef, InI, ↓reduceIte, simprocAttr, c11, r11, c11_1, c11_2, c11_3, c11_4, c11_5, c11_6, c11_7, c11_8, c11_9, TL1, selNP, hn1, hp1, hz, f0, hfe, hin2, bne_self_eq_false, decide_true, decide_false]
  refine rng_loop n.nodes.length (fun j => ⟨fr [(4, .ptr (0, 4) 0 0 0), (5, .ptr (0, 5) 0 0 0), (6, di (sumI posI p.ports)), (9, di (sumI C (List.range j))), (41, di n.nodes.length), (42, di (j : Nat))], BHp n p⟩) (fun _ => True) (weak_eq [] [(0, 4), (0, 5)] [(4, .ptr (0, 4) 0 0 0), (5, .ptr (0, 5) 0 0 0), (6, di (sumI posI p.ports)), (9, di 0), (41, di n.nodes.length), (42, di 0)] (by simp (config := { maxSteps := 500000 }) only [↓vp, vv, implies_true, forall_const, undef, InI, ↓reduceIte, simprocAttr, coverS, BHp, netD, plnD]) (by simp (config := { maxSteps := 500000 }) only [↓vp, vv, implies_true, forall_const, undef, InI, ↓reduceIte, simprocAttr, refsF, BHp, netD, plnD]) (by simp (config := { maxSteps := 500000 }) only [↓vp, vv, implies_true, forall_const, undef, InI, ↓reduceIte, simprocAttr, BHp, netD, plnD]) (by simp) (by simp (config := { maxSteps := 500000 }) only [↓vp, vv, implies_true, forall_const, undef, InI, ↓reduceIte, simprocAttr, BHp, netD, plnD]; try rfl)) trivial (fun j hj _ => ?_) (fun _ => ?_)
  · have hj' : (j : Int) < n.nodes.length := by omega
    have hjn := idx_nn j
    have w1 := idx_next (j := j) (by omega)
    have ht := hthr2 j hj
    have hc := hCb j
    have hc2 : ¬ C j < 0 := by omega
    have hcj := hCs j
    have w2 : IntKind.i64.wrap (sumI C (List.range j) + C j) = sumI C (List.range (j + 1)) := by rw [List.range_succ, sumI_snoc]; exact wrap_i (by omega)
    simp (config := { maxSteps := 500000 }) only [↓vp, vv, implies_true, forall_const, undef, InI, ↓reduceIte, simprocAttr, c11, r11, c11_1, c11_2, c11_3, c11_4, c11_5, c11_6, c11_7, c11_8, c11_9, TL1, selThr, BHp, netD, plnD, hn1, hp1, hz, hj', hjn, ht, hc2, w1, w2, bne_self_eq_false, decide_true, decide_false]
    exact rng_next hj (weak_eq [] [(0, 4), (0, 5)] [(4, .ptr (0, 4) 0 0 0), (5, .ptr (0, 5) 0 0 0), (6, di (sumI posI p.ports)), (9, di (sumI C (List.range (j + 1)))), (41, di n.nodes.length), (42, di (j + 1 : Nat))] (by simp (config := { maxSteps := 500000 }) only [↓vp, vv, implies_true, forall_const, undef, InI, ↓reduceIte, simprocAttr, coverS, BHp, netD, plnD, w1, w2]) (by simp (config := { maxSteps := 500000 }) only [↓vp, vv, implies_true, forall_const, undef, InI, ↓reduceIte, simprocAttr, refsF, BHp, netD, plnD, w1, w2]) (by simp (config := { maxSteps := 500000 }) only [↓vp, vv, implies_true, forall_const, undef, InI, ↓reduceIte, simprocAttr, BHp, netD, plnD, w1, w2]) (by simp) (by simp (config := { maxSteps := 500000 }) only [↓vp, vv, implies_true, forall_const, undef, InI, ↓reduceIte, simprocAttr, BHp, netD, plnD, w1, w2]; try rfl)) trivial
  · rw [hcs]
    have hrl := hp.rl
    have hsl := hv.sl
    have hrb : ∀ r ∈ p.rates, 0 ≤ absI r ∧ absI r ≤ 1000 ∧ -1000 ≤ r ∧ r ≤ 1000 := fun r hr => by
      obtain ⟨k, hk⟩ := List.getElem?_of_mem hr
      have hl : k < p.rates.length := by
        rcases Nat.lt_or_ge k p.rates.length with h | h
        · exact h
        · rw [List.getElem?_eq_none h] at hk; cases hk
      have hx : (n.segs[k]'(by omega), r) ∈ n.segs.zip p.rates := zip_of (List.getElem?_eq_getElem (by omega)) hk
      have := hp.rb _ hx
      unfold RateIn at this
      have := @minC_b (n.segs[k]'(by omega)).cap
      unfold absI
      dsimp only at *
      split <;> omega
    have habs : ∀ j, 0 ≤ sumI absI (p.rates.take j) ∧ sumI absI (p.rates.take j) ≤ 1000 * p.rates.length := fun j => by
      have a := sumI_nn (f := absI) (l := p.rates.take j) fun x hx => (hrb x (List.mem_of_mem_take hx)).1
      have b := sumI_le (f := absI) 1000 (l := p.rates.take j) fun x hx => (hrb x (List.mem_of_mem_take hx)).2.1
      rw [List.length_take] at b
      omega
    have hal := habs p.rates.length
    rw [List.take_length] at hal
    have hpl := hp.ql
    have hql := hv.ql
    simp (config := { maxSteps := 500000 }) only [↓vp, vv, implies_true, forall_const, undef, InI, ↓reduceIte, simprocAttr, c11, r11, c11_1, c11_2, c11_3, c11_4, c11_5, c11_6, c11_7, c11_8, c11_9, BHp, netD, plnD, Int.lt_irrefl]
    refine rng_loop p.rates.length (fun j => ⟨fr [(5, .ptr (0, 5) 0 0 0), (6, di (sumI posI p.ports)), (9, di (sumI absI p.rates + sumI posI p.ports - sumI absI (p.rates.take j))), (64, di p.rates.length), (65, di (j : Nat))], Hp.none.put (0, 5) ⟨0, 3, [plnD p]⟩⟩) (fun _ => True) (weak_eq [] [(0, 5)] [(5, .ptr (0, 5) 0 0 0), (6, di (sumI posI p.ports)), (9, di (sumI absI p.rates + sumI posI p.ports - sumI absI (p.rates.take 0))), (64, di p.rates.length), (65, di 0)] (by simp (config := { maxSteps := 500000 }) only [↓vp, vv, implies_true, forall_const, undef, InI, ↓reduceIte, simprocAttr, coverS, plnD, sumI, Int.sub_zero]) (by simp (config := { maxSteps := 500000 }) only [↓vp, vv, implies_true, forall_const, undef, InI, ↓reduceIte, simprocAttr, refsF, plnD, sumI, Int.sub_zero]) (by simp (config := { maxSteps := 500000 }) only [↓vp, vv, implies_true, forall_const, undef, InI, ↓reduceIte, simprocAttr, plnD, sumI, Int.sub_zero]) (by simp) (by simp (config := { maxSteps := 500000 }) only [↓vp, vv, implies_true, forall_const, undef, InI, ↓reduceIte, simprocAttr, plnD, sumI, Int.sub_zero]; try rfl)) trivial (fun j hj _ => ?_) (fun _ => ?_)
    · have hj' : (j : Int) < p.rates.length := by omega
      have hjn := idx_nn j
      have w1 := idx_next (j := j) (by omega)
      have hg := iRow_at p.rates j hj
      have e1 := sum_take absI p.rates j hj
      have hb := hrb _ (List.getElem_mem hj)
      have ha := habs j
      generalize p.rates[j] = r at hg e1 hb
      have w2 : IntKind.i64.wrap (sumI absI p.rates + sumI posI p.ports - sumI absI (p.rates.take j) - absI r) = sumI absI p.rates + sumI posI p.ports - sumI absI (p.rates.take (j + 1)) := by rw [e1, wrap_i (by omega)]; omega
      have hab : -1000000 ≤ r ∧ r ≤ 1000000 := by omega
      simp (config := { maxSteps := 500000 }) only [↓vp, vv, implies_true, forall_const, undef, InI, ↓reduceIte, simprocAttr, c11, r11, c11_1, c11_2, c11_3, c11_4, c11_5, c11_6, c11_7, c11_8, c11_9, TL1, selAbs, plnD, hj', hjn, Int.toNat_natCast, hg, hab, w1, w2]
      exact rng_next hj (weak_eq [] [(0, 5)] [(5, .ptr (0, 5) 0 0 0), (6, di (sumI posI p.ports)), (9, di (sumI absI p.rates + sumI posI p.ports - sumI absI (p.rates.take (j + 1)))), (64, di p.rates.length), (65, di (j + 1 : Nat))] (by simp (config := { maxSteps := 500000 }) only [↓vp, vv, implies_true, forall_const, undef, InI, ↓reduceIte, simprocAttr, coverS, plnD, w1, w2]) (by simp (config := { maxSteps := 500000 }) only [↓vp, vv, implies_true, forall_const, undef, InI, ↓reduceIte, simprocAttr, refsF, plnD, w1, w2]) (by simp (config := { maxSteps := 500000 }) only [↓vp, vv, implies_true, forall_const, undef, InI, ↓reduceIte, simprocAttr, plnD, w1, w2]) (by simp) (by simp (config := { maxSteps := 500000 }) only [↓vp, vv, implies_true, forall_const, undef, InI, ↓reduceIte, simprocAttr, plnD, w1, w2]; try rfl)) trivial
    · rw [List.take_length, show sumI absI p.rates + sumI posI p.ports - sumI absI p.rates = sumI posI p.ports by omega]
      simp (config := { maxSteps := 500000 }) only [↓vp, vv, implies_true, forall_const, undef, InI, ↓reduceIte, simprocAttr, c11, r11, c11_1, c11_2, c11_3, c11_4, c11_5, c11_6, c11_7, c11_8, c11_9, TL1, selAw, plnD, Int.lt_irrefl, Pu]
theorem FlowBalances_law (a : Option Addr) (len cap : Nat) (w : World) (h : ArgInts w a len cap) :
    Calls Try.prog 11 #[.slice a len cap] w (Ret (.bool true) w) :=
  law_ints (us := []) h fun ns hns => FB_c ns hns (0, 0)
end Go.Proofs.Ytiaenojpbiahgaa
