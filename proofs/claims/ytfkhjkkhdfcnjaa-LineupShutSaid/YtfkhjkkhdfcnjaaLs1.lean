
/- LineupShut: the plain law; Shut. -/
import Derived.Test.YtfkhjkkhdfcnjaaDsA
import Derived.Test.YtfkhjkkhdfcnjaaLuA
import Derived.Test.YtfkhjkkhdfcnjaaPl1
namespace Go.Proofs.Ytfkhjkkhdfcnjaa
open Go
set_option linter.unusedVariables false
set_option linter.unusedSimpArgs false
set_option maxRecDepth 100000

/-- A number that is counted at its own place alone, in a group. -/
theorem sum_grp (W : Int → Bool) (x r : Int) : ∀ N : Nat, sumI (fun v : Nat => if W v = true then (if x = (v : Int) then r else 0) else 0) (List.range N) = if 0 ≤ x ∧ x < N then (if W x = true then r else 0) else 0
  | 0 => by rw [if_neg (by omega)]; rfl
  | N + 1 => by
    rw [List.range_succ, sumI_snoc, sum_grp W x r N]
    by_cases h : x = (N : Int)
    · have a : ¬ (0 ≤ x ∧ x < (N : Int)) := by omega
      have b : 0 ≤ x ∧ x < ((N + 1 : Nat) : Int) := by omega
      rw [if_neg a, if_pos b, ← h, if_pos (rfl : x = x)]
      omega
    · have z : (if W (N : Int) = true then (if x = (N : Int) then r else 0) else 0) = 0 := by rw [if_neg h]; split <;> rfl
      rw [z]
      by_cases h2 : 0 ≤ x ∧ x < (N : Int)
      · have b : 0 ≤ x ∧ x < ((N + 1 : Nat) : Int) := by omega
        rw [if_pos h2, if_pos b]; omega
      · have b : ¬ (0 ≤ x ∧ x < ((N + 1 : Nat) : Int)) := by omega
        rw [if_neg h2, if_neg b]; omega
theorem net_grp (W : Int → Bool) (N : Nat) (t : Fl) : sumI (fun v : Nat => if W v = true then netOf (v : Int) t else 0) (List.range N) = (if 0 ≤ t.2.1 ∧ t.2.1 < N then (if W t.2.1 = true then t.2.2 else 0) else 0) - (if 0 ≤ t.1 ∧ t.1 < N then (if W t.1 = true then t.2.2 else 0) else 0) := by
  rw [← sum_grp, ← sum_grp, sumI_sub]
  refine sumI_congr fun v _ => ?_
  unfold netOf
  split <;> rfl
theorem sumI_negex {α : Type} {f : α → Int} : ∀ {l : List α}, sumI f l ≤ 0 → (∃ x ∈ l, 0 < f x) → ∃ y ∈ l, f y < 0
  | [], _, ⟨x, hx, _⟩ => by cases hx
  | z :: l, h, ⟨x, hx, hp⟩ => by
    rw [sumI] at h
    rcases Int.lt_or_le (f z) 0 with hz | hz
    · exact ⟨z, List.mem_cons_self .., hz⟩
    · rcases List.mem_cons.1 hx with rfl | hx
      · have : sumI f l < 0 := by omega
        rcases Int.lt_or_le (sumI f l) 0 with h2 | h2
        · have : ∃ y ∈ l, f y < 0 := by
            refine Classical.byContradiction fun hn => ?_
            have := sumI_nn (f := f) (l := l) fun y hy => by
              rcases Int.lt_or_le (f y) 0 with h3 | h3
              · exact absurd ⟨y, hy, h3⟩ hn
              · exact h3
            omega
          obtain ⟨y, hy, hyn⟩ := this
          exact ⟨y, List.mem_cons_of_mem _ hy, hyn⟩
        · omega
      · obtain ⟨y, hy, hyn⟩ := sumI_negex (l := l) (by omega) ⟨x, hx, hp⟩
        exact ⟨y, List.mem_cons_of_mem _ hy, hyn⟩
/-- What flows in within a group that no flow leaves flows out of it. -/
theorem grp_out {n : Net} {p : Pln} (hv : NetV n) (hb : ∀ v : Nat, sumI (netOf (v : Int)) (flowsOf n p) = 0) (W : Int → Bool) (hW : ∀ x ∈ n.segs.zip p.rates, x.2 ≠ 0 → W x.1.fr = W x.1.to)
    (hex : ∃ x ∈ n.ports.zip p.ports, W x.1.node = true ∧ 0 < x.2) : ∃ x ∈ n.ports.zip p.ports, W x.1.node = true ∧ x.2 < 0 := by
  have h1 : sumI (fun v : Nat => sumI (fun t : Fl => if W v = true then netOf (v : Int) t else 0) (flowsOf n p)) (List.range n.nodes.length) = 0 := sumI_zero fun v _ => by
    cases W v with
    | false => exact sumI_zero fun t _ => by simp
    | true => rw [← hb v]; exact sumI_congr fun t _ => by simp
  have h2 := sumI_swap (fun (t : Fl) (v : Nat) => if W v = true then netOf (v : Int) t else 0) (flowsOf n p) (List.range n.nodes.length)
  rw [h1] at h2
  unfold flowsOf at h2
  rw [sumI_app, ← List.map_uncurry_zip_eq_zipWith, ← List.map_uncurry_zip_eq_zipWith, sumI_map, sumI_map] at h2
  have h3 : sumI (fun x : Seg × Int => sumI (fun v : Nat => if W v = true then netOf (v : Int) (Function.uncurry segFl x) else 0) (List.range n.nodes.length)) (n.segs.zip p.rates) = 0 := sumI_zero fun x hx => by
    have := hv.se x.1 (List.of_mem_zip hx).1
    rw [net_grp]
    unfold Function.uncurry segFl
    dsimp only
    rw [if_pos (show 0 ≤ x.1.to ∧ x.1.to < (n.nodes.length : Int) from ⟨this.2.1.1, this.2.1.2⟩), if_pos (show 0 ≤ x.1.fr ∧ x.1.fr < (n.nodes.length : Int) from ⟨this.1.1, this.1.2⟩)]
    by_cases hz : x.2 = 0
    · rw [hz]; split <;> split <;> rfl
    · rw [hW x hx hz]; split <;> omega
  have h4 : sumI (fun x : Port × Int => sumI (fun v : Nat => if W v = true then netOf (v : Int) (Function.uncurry portFl x) else 0) (List.range n.nodes.length)) (n.ports.zip p.ports) = sumI (fun x => if W x.1.node = true then x.2 else 0) (n.ports.zip p.ports) := sumI_congr fun x hx => by
    have := hv.pe x.1 (List.of_mem_zip hx).1
    rw [net_grp]
    unfold Function.uncurry portFl
    dsimp only
    have a : 0 ≤ x.1.node ∧ x.1.node < (n.nodes.length : Int) := ⟨this.1, this.2⟩
    have b : ¬ (0 ≤ (-1 : Int) ∧ (-1 : Int) < (n.nodes.length : Int)) := by omega
    rw [if_pos a, if_neg b]
    omega
  rw [h3, h4] at h2
  obtain ⟨x, hx, hx1, hx2⟩ := hex
  obtain ⟨y, hy, hyn⟩ := sumI_negex (f := fun x : Port × Int => if W x.1.node = true then x.2 else 0) (l := n.ports.zip p.ports) (by omega) ⟨x, hx, by rw [if_pos hx1]; exact hx2⟩
  split at hyn
  · rename_i hw; exact ⟨y, hy, hw, hyn⟩
  · omega
def hitB (n : Net) (p : Pln) (v : Nat) : Bool := (n.ports.zip p.ports).any fun x => if decide (x.2 < 0) = true then x.1.node == (v : Int) else false
theorem seg_in {n : Net} (hv : NetV n) (c : List Bool) : ∀ x ∈ n.segs.zip c, SegIn n.nodes.length x := fun x hx => by
  have := hv.se x.1 (List.of_mem_zip hx).1
  exact ⟨this.1, this.2.1⟩
theorem zip_at2 {α β : Type} {l : List α} {m : List β} {x : α × β} (h : x ∈ l.zip m) : ∃ k : Nat, l[k]? = some x.1 ∧ m[k]? = some x.2 := zip_at h
/-- Over what is open, each flow in reaches a flow out. -/
theorem reach_out {n : Net} {p : Pln} (hv : NetV n) (hb : ∀ v : Nat, sumI (netOf (v : Int)) (flowsOf n p) = 0) {c : List Bool} (hc : ∀ (k : Nat) (r : Int), p.rates[k]? = some r → r ≠ 0 → c[k]? = some false)
    {x : Port × Int} (hx : x ∈ n.ports.zip p.ports) (hpos : 0 < x.2) : (reachL n c x.1.node.toNat).any (hitB n p) = true := by
  have hpe := hv.pe x.1 (List.of_mem_zip hx).1
  have ha : x.1.node.toNat < n.nodes.length := by omega
  obtain ⟨d1, d2, d3, d4⟩ := dist_spec (seg_in hv c) ha
  obtain ⟨y, hy, hy1, hy2⟩ := grp_out hv hb (fun v => decide (0 ≤ (distL n c x.1.node.toNat).getD v.toNat 0)) (fun z hz hne => by
    obtain ⟨k, k1, k2⟩ := zip_at hz
    have hm : (z.1, false) ∈ n.segs.zip c := zip_of k1 (hc k z.2 k2 hne)
    have := d4 (z.1, false) hm rfl
    dsimp only at this ⊢
    exact decide_eq_decide.2 this) ⟨x, hx, decide_eq_true (by rw [d3]; exact Int.le_refl _), hpos⟩
  have hyp := hv.pe y.1 (List.of_mem_zip hy).1
  have hy1 := of_decide_eq_true hy1
  refine List.any_eq_true.2 ⟨y.1.node.toNat, ?_, List.any_eq_true.2 ⟨y, hy, ?_⟩⟩
  · unfold reachL
    rw [List.mem_filter, List.mem_range]
    exact ⟨by omega, decide_eq_true hy1⟩
  · rw [if_pos (decide_eq_true hy2), beq_iff_eq]
    omega
theorem permB_of : ∀ {A B : List Bool}, A.length = B.length → (∀ i : Nat, A.getD i false = true → B.getD i false = true) → permB A B = true
  | [], [], _, _ => rfl
  | [], y :: B, h, _ => by simp at h
  | x :: A, [], h, _ => by simp at h
  | x :: A, y :: B, h, hi => by
    rw [permB_cons, permB_of (by simpa using h) fun i hh => by have := hi (i + 1); simpa using this (by simpa using hh)]
    cases x with
    | false => rfl
    | true => have := hi 0 rfl; rw [if_pos rfl]; simpa using this
set_option maxHeartbeats 8000000 in
theorem shut_c (n : Net) (hz : NetSz n) (l : Lnp) (hck : checkI n = 0) (hl : lvB n l = true) (nn : Nm) : CallsA Try.prog 50 [n.enc, l.enc] Hp.none nn (Pu (.tup [.sl ((l.segs.map (fun b => !b)).map bRow), di 0]) Hp.none) := by
  obtain ⟨code, h1, h2⟩ := c50_ok
  refine callsA_of TLu3_ok mixed (N := fun t => (0, t)) Try.func50 h1 h2 r50_ok [] false js_nil js_nil' (by simp [Try.f50]) ?_
  have hn1 : netOf1 [D.sl (n.nodes.map nmRow), .sl (n.segs.map Seg.row), .sl (n.ports.map Port.row), .sl (n.sts.map Stn.row), di n.vap, di n.set] = some n := netOf1_row n
  have hl2 : lsOf lnpOf1 [[D.sl (l.segs.map bRow), .sl (l.ports.map bRow)]] = some [l] := lsOf_map lnpOf1_row [l]
  have hb : bothI n [l] = 0 := by unfold bothI; rw [if_pos hck]; simp [hl]
  have ll := lv_len hl
  have zs := hz.segs
  simp (config := { maxSteps := 500000 }) only [↓vp, vv, implies_true, forall_const, undef, InI, ↓reduceIte, simprocAttr, c50, c50_4, TLu3, selBoth, Net.enc, Lnp.enc, lnpD, hn1, hl2, hb, hz, bne_self_eq_false]
  have hll : l.segs.length ≤ 1000000 := by omega
  refine rng_loop l.segs.length (fun j => ⟨fr (ShF l.segs j), ShH l.segs j⟩) (fun _ => True) ((weak_own 7 (0, 1000) 1 (by simp (config := { maxSteps := 500000 }) only [↓vp, vv, implies_true, forall_const, undef, InI, ↓reduceIte, simprocAttr, ]) (by simp (config := { maxSteps := 500000 }) only [↓vp, vv, implies_true, forall_const, undef, InI, ↓reduceIte, simprocAttr, ])).trans (weak_eq [] [(0, 1000)] (ShF l.segs 0) (by simp (config := { maxSteps := 500000 }) only [↓vp, vv, implies_true, forall_const, undef, InI, ↓reduceIte, simprocAttr, coverS, ShF, ShH, bRow, nots, List.take_zero]) (by simp (config := { maxSteps := 500000 }) only [↓vp, vv, implies_true, forall_const, undef, InI, ↓reduceIte, simprocAttr, refsF, ShF, ShH, bRow, nots, List.take_zero]) (by simp (config := { maxSteps := 500000 }) only [↓vp, vv, implies_true, forall_const, undef, InI, ↓reduceIte, simprocAttr, ShF, ShH, bRow, nots, List.take_zero]) (by simp) (by simp (config := { maxSteps := 500000 }) only [↓vp, vv, implies_true, forall_const, undef, InI, ↓reduceIte, simprocAttr, ShF, ShH, bRow, nots, List.take_zero]; try rfl))) trivial (fun j hj _ => ?_) (fun _ => ?_)
  · have hj' : (j : Int) < l.segs.length := by omega
    have hjn := idx_nn j
    have w1 := idx_next (j := j) (by omega)
    have hg := bRow_g l.segs j hj
    have ht := nots_succ hj
    have hlj := nots_len (R := l.segs) (j := j) (by omega)
    generalize l.segs[j] = r at hg ht
    have y1 : (j + 1) * 1 ≤ 140737488355328 := by omega
    have y2 : j + 1 ≤ 4611686018427387904 := by omega
    simp (config := { maxSteps := 500000 }) only [↓vp, vv, implies_true, forall_const, undef, InI, ↓reduceIte, simprocAttr, c50_2, c50_1, ShF, ShH, hj', hjn, Int.toNat_natCast, hg, w1, y1, y2, hlj]
    exact rng_next hj (weak_eq [] [(0, 1000)] (ShF l.segs (j + 1)) (by simp (config := { maxSteps := 500000 }) only [↓vp, vv, implies_true, forall_const, undef, InI, ↓reduceIte, simprocAttr, coverS, ShF, ShH, bRow, w1, ht, List.map_append]) (by simp (config := { maxSteps := 500000 }) only [↓vp, vv, implies_true, forall_const, undef, InI, ↓reduceIte, simprocAttr, refsF, ShF, ShH, bRow, w1, ht, List.map_append]) (by simp (config := { maxSteps := 500000 }) only [↓vp, vv, implies_true, forall_const, undef, InI, ↓reduceIte, simprocAttr, ShF, ShH, bRow, w1, ht, List.map_append]) (by simp) (by simp (config := { maxSteps := 500000 }) only [↓vp, vv, implies_true, forall_const, undef, InI, ↓reduceIte, simprocAttr, ShF, ShH, bRow, w1, ht, List.map_append]; try rfl)) trivial
  · rw [show ShH l.segs l.segs.length = Hp.none.put (0, 1000) ⟨l.segs.length, 1, (l.segs.map (fun b => !b)).map bRow⟩ by unfold ShH nots; rw [List.take_length]]
    have hl3 : (l.segs.map (fun b => !b)).length = l.segs.length := List.length_map _
    generalize l.segs.map (fun b => !b) = Z at hl3
    have tk : (Z.map bRow).take l.segs.length = Z.map bRow := List.take_of_length_le (by simp [hl3])
    simp (config := { maxSteps := 500000 }) only [↓vp, vv, implies_true, forall_const, undef, InI, ↓reduceIte, simprocAttr, c50_2, c50_3, r50, ShF, tk, Int.lt_irrefl, Pu]
    exact ⟨fun b _ d hd => by rw [List.mem_singleton.1 hd]; rfl, by omega⟩
end Go.Proofs.Ytfkhjkkhdfcnjaa
