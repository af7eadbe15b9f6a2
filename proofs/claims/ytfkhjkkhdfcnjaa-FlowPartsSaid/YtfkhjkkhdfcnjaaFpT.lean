
/- FlowParts: the plain law. -/
import Derived.Test.YtfkhjkkhdfcnjaaFlP
import Derived.Test.YtfkhjkkhdfcnjaaCodeFP
import Derived.Test.YtfkhjkkhdfcnjaaBridge
import Derived.Test.YtfkhjkkhdfcnjaaVz
/- FlowParts: the plain law. -/
namespace Go.Proofs.Ytfkhjkkhdfcnjaa
open Go
set_option linter.unusedVariables false
set_option linter.unusedSimpArgs false
set_option maxRecDepth 100000

/-- A number that is counted at its own place alone, in a group. -/
theorem sum_grp (W : Int → Bool) (x r : Int) : ∀ N : Nat, sumI (fun v : Nat => if W v = true then (if x = (v : Int) then r else 0) else 0) (List.range N) = if 0 ≤ x ∧ x < N then (if W x = true then r else 0) else 0
  | 0 => by rw [if_neg (by omega)]; rfl
  | N + 1 => by
    rw [List.range_succ, sumI_snoc, sum_grp W x r N]
    by_cases h : x = (N : Int)
    · have a : ¬ (0 ≤ x ∧ x < (N : Int)) := by omega
      have b : 0 ≤ x ∧ x < ((N + 1 : Nat) : Int) := by omega
      rw [if_neg a, if_pos b, ← h, if_pos (rfl : x = x)]
      omega
    · have z : (if W (N : Int) = true then (if x = (N : Int) then r else 0) else 0) = 0 := by rw [if_neg h]; split <;> rfl
      rw [z]
      by_cases h2 : 0 ≤ x ∧ x < (N : Int)
      · have b : 0 ≤ x ∧ x < ((N + 1 : Nat) : Int) := by omega
        rw [if_pos h2, if_pos b]; omega
      · have b : ¬ (0 ≤ x ∧ x < ((N + 1 : Nat) : Int)) := by omega
        rw [if_neg h2, if_neg b]; omega
theorem net_grp (W : Int → Bool) (N : Nat) (t : Fl) : sumI (fun v : Nat => if W v = true then netOf (v : Int) t else 0) (List.range N) = (if 0 ≤ t.2.1 ∧ t.2.1 < N then (if W t.2.1 = true then t.2.2 else 0) else 0) - (if 0 ≤ t.1 ∧ t.1 < N then (if W t.1 = true then t.2.2 else 0) else 0) := by
  rw [← sum_grp, ← sum_grp, sumI_sub]
  refine sumI_congr fun v _ => ?_
  unfold netOf
  split <;> rfl
def grpI (W : Int → Bool) (x : Seg × Int) : Int := if x.2 = 0 then 0 else if W (frOf x) = true then 0 else if W (toOf x) = true then absI x.2 else 0
def grpO (W : Int → Bool) (x : Seg × Int) : Int := if x.2 = 0 then 0 else if W (frOf x) = true then (if W (toOf x) = true then 0 else absI x.2) else 0
def grpPI (W : Int → Bool) (x : Port × Int) : Int := if W x.1.node = true then posI x.2 else 0
def grpPO (W : Int → Bool) (x : Port × Int) : Int := if W x.1.node = true then negI x.2 else 0
theorem grp_net (W : Int → Bool) (x : Seg × Int) : grpI W x - grpO W x = (if W x.1.to = true then x.2 else 0) - (if W x.1.fr = true then x.2 else 0) := by
  obtain ⟨s, r⟩ := x
  unfold grpI grpO frOf toOf absI
  dsimp only
  rcases Int.lt_trichotomy r 0 with h | h | h
  · have a : ¬ r = 0 := by omega
    have b : r < -r := by omega
    simp only [if_neg a, if_pos h, if_pos b]
    cases W s.to <;> cases W s.fr <;> simp
  · subst h; simp
  · have a : ¬ r = 0 := by omega
    have b : ¬ r < -r := by omega
    have c : ¬ r < 0 := by omega
    simp only [if_neg a, if_neg c, if_neg b]
    cases W s.to <;> cases W s.fr <;> simp
theorem grp_law {n : Net} {p : Pln} (hv : NetV n) (hb : ∀ v : Nat, sumI (netOf (v : Int)) (flowsOf n p) = 0) (W : Int → Bool) : sumI (grpI W) (n.segs.zip p.rates) + sumI (grpPI W) (n.ports.zip p.ports) = sumI (grpO W) (n.segs.zip p.rates) + sumI (grpPO W) (n.ports.zip p.ports) := by
  have h1 : sumI (fun v : Nat => sumI (fun t : Fl => if W v = true then netOf (v : Int) t else 0) (flowsOf n p)) (List.range n.nodes.length) = 0 := sumI_zero fun v _ => by
    cases W v with
    | false => exact sumI_zero fun t _ => by simp
    | true => rw [← hb v]; exact sumI_congr fun t _ => by simp
  have h2 := sumI_swap (fun (t : Fl) (v : Nat) => if W v = true then netOf (v : Int) t else 0) (flowsOf n p) (List.range n.nodes.length)
  rw [h1] at h2
  unfold flowsOf at h2
  rw [sumI_app, ← List.map_uncurry_zip_eq_zipWith, ← List.map_uncurry_zip_eq_zipWith, sumI_map, sumI_map] at h2
  have h3 : sumI (fun x : Seg × Int => sumI (fun v : Nat => if W v = true then netOf (v : Int) (Function.uncurry segFl x) else 0) (List.range n.nodes.length)) (n.segs.zip p.rates) = sumI (fun x => grpI W x - grpO W x) (n.segs.zip p.rates) := sumI_congr fun x hx => by
    have := hv.se x.1 (List.of_mem_zip hx).1
    rw [net_grp, grp_net]
    unfold Function.uncurry segFl
    dsimp only
    rw [if_pos (show 0 ≤ x.1.to ∧ x.1.to < (n.nodes.length : Int) from ⟨this.2.1.1, this.2.1.2⟩), if_pos (show 0 ≤ x.1.fr ∧ x.1.fr < (n.nodes.length : Int) from ⟨this.1.1, this.1.2⟩)]
  have h4 : sumI (fun x : Port × Int => sumI (fun v : Nat => if W v = true then netOf (v : Int) (Function.uncurry portFl x) else 0) (List.range n.nodes.length)) (n.ports.zip p.ports) = sumI (fun x => grpPI W x - grpPO W x) (n.ports.zip p.ports) := sumI_congr fun x hx => by
    have := hv.pe x.1 (List.of_mem_zip hx).1
    rw [net_grp]
    unfold Function.uncurry portFl grpPI grpPO posI negI
    dsimp only
    have a : 0 ≤ x.1.node ∧ x.1.node < (n.nodes.length : Int) := ⟨this.1, this.2⟩
    have b : ¬ (0 ≤ (-1 : Int) ∧ (-1 : Int) < (n.nodes.length : Int)) := by omega
    rw [if_pos a, if_neg b]
    cases W x.1.node with
    | false => simp
    | true => simp only [if_true]; split <;> split <;> omega
  rw [h3, h4, ← sumI_sub, ← sumI_sub] at h2
  omega
end Go.Proofs.Ytfkhjkkhdfcnjaa
/- FlowParts: the walk. -/
namespace Go.Proofs.Ytfkhjkkhdfcnjaa
open Go
set_option linter.unusedVariables false
set_option linter.unusedSimpArgs false
set_option maxRecDepth 100000

/-- A bit of a number, as the program reads it. -/
def bitV (T x : Int) : Int := IntKind.u16.wrap (BitVec.ofInt IntKind.u16.bits (T.fdiv (2 ^ (min x.toNat IntKind.u16.bits))) &&& BitVec.ofInt IntKind.u16.bits 1).toNat
theorem bit_01 (T x : Int) : bitV T x = 0 ∨ bitV T x = 1 := by
  unfold bitV
  generalize BitVec.ofInt IntKind.u16.bits (T.fdiv (2 ^ (min x.toNat IntKind.u16.bits))) = b
  have e : (b &&& BitVec.ofInt IntKind.u16.bits 1).toNat = b.toNat % 2 := by
    rw [BitVec.toNat_and]
    exact Nat.and_one_is_mod b.toNat
  rw [e]
  rcases Nat.mod_two_eq_zero_or_one b.toNat with h | h <;> rw [h]
  · exact .inl rfl
  · exact .inr rfl
def gW (T : Int) (x : Int) : Bool := bitV T x == 1
theorem gw_01 (T x : Int) : (bitV T x = 0 ∧ gW T x = false) ∨ (bitV T x = 1 ∧ gW T x = true) := by
  rcases bit_01 T x with h | h
  · exact .inl ⟨h, by unfold gW; rw [h]; rfl⟩
  · exact .inr ⟨h, by unfold gW; rw [h]; rfl⟩
theorem bit_e (T x : Int) : IntKind.u16.wrap ((BitVec.ofInt IntKind.u16.bits (T.fdiv (2 ^ (min x.toNat IntKind.u16.bits))) &&& BitVec.ofInt IntKind.u16.bits 1).toNat : Int) = bitV T x := rfl
theorem sumI_tk {α : Type} (f : α → Int) {l : List α} {j : Nat} {x : α} (h : l[j]? = some x) : sumI f (l.take (j + 1)) = sumI f (l.take j) + f x := by
  have hj : j < l.length := by
    rcases Nat.lt_or_ge j l.length with h1 | h1
    · exact h1
    · rw [List.getElem?_eq_none h1] at h; cases h
  rw [← List.take_append_getElem hj, sumI_snoc]
  rw [List.getElem?_eq_getElem hj] at h
  cases h
  rfl
theorem sum_b1 {α : Type} {f : α → Int} {L : List α} (h : ∀ x ∈ L, 0 ≤ f x ∧ f x ≤ 1000) (l : List α) (hl : ∀ x ∈ l, x ∈ L) (j : Nat) : 0 ≤ sumI f (l.take j) ∧ sumI f (l.take j) ≤ 1000 * j := by
  have a := sumI_nn (f := f) (l := l.take j) fun x hx => (h x (hl x (List.mem_of_mem_take hx))).1
  have b := sumI_le (f := f) 1000 (l := l.take j) fun x hx => (h x (hl x (List.mem_of_mem_take hx))).2
  rw [List.length_take] at b
  omega
theorem rate_b {n : Net} {p : Pln} (hp : PlanOk n p) : ∀ x ∈ n.segs.zip p.rates, -1000 ≤ x.2 ∧ x.2 ≤ 1000 := fun x hx => by
  have := hp.rb _ hx
  unfold RateIn at this
  have := @minC_b x.1.cap
  omega
theorem absI_b {r : Int} (h : -1000 ≤ r ∧ r ≤ 1000) : 0 ≤ absI r ∧ absI r ≤ 1000 := by unfold absI; split <;> omega
theorem grpI_b (W : Int → Bool) {L : List (Seg × Int)} (h : ∀ x ∈ L, -1000 ≤ x.2 ∧ x.2 ≤ 1000) : ∀ x ∈ L, 0 ≤ grpI W x ∧ grpI W x ≤ 1000 := fun x hx => by
  have := absI_b (h x hx)
  unfold grpI
  split
  · omega
  · split
    · omega
    · split <;> omega
theorem grpO_b (W : Int → Bool) {L : List (Seg × Int)} (h : ∀ x ∈ L, -1000 ≤ x.2 ∧ x.2 ≤ 1000) : ∀ x ∈ L, 0 ≤ grpO W x ∧ grpO W x ≤ 1000 := fun x hx => by
  have := absI_b (h x hx)
  unfold grpO
  split
  · omega
  · split
    · split <;> omega
    · omega
theorem grpPI_b (W : Int → Bool) {n : Net} {p : Pln} (hp : PlanOk n p) : ∀ x ∈ n.ports.zip p.ports, 0 ≤ grpPI W x ∧ grpPI W x ≤ 1000 := fun x hx => by
  have := hp.qb _ (List.of_mem_zip hx).2
  unfold grpPI posI
  split
  · split <;> omega
  · omega
theorem grpPO_b (W : Int → Bool) {n : Net} {p : Pln} (hp : PlanOk n p) : ∀ x ∈ n.ports.zip p.ports, 0 ≤ grpPO W x ∧ grpPO W x ≤ 1000 := fun x hx => by
  have := hp.qb _ (List.of_mem_zip hx).2
  unfold grpPO negI
  split
  · split <;> omega
  · omega
def trs (j : Nat) : List Bool := List.replicate j true
theorem trs_len (j : Nat) : (trs j).length = j := List.length_replicate
theorem trs_succ (j : Nat) : trs (j + 1) = trs j ++ [true] := List.replicate_succ'
theorem trs_0 : trs 0 = [] := rfl
def onP (n : Net) (p : Pln) : Pln := ⟨p.rates, p.ports, trs n.sts.length⟩
def FpH (n : Net) (p : Pln) (j : Nat) : Hp := (((Hp.none.put (0, 1001) ⟨j, 1, (trs j).map bRow⟩).put (0, 8) ⟨0, 3, [[.sl (p.rates.map iRow), .sl (p.ports.map iRow), .own (0, 1001) j 0 j]]⟩).put (0, 7) ⟨0, 3, [plnD p]⟩).put (0, 6) ⟨0, 6, [netD n]⟩
def FpF (T : Nat) (l : List (Nat × D)) : List (Nat × D) := (1, .v (.int .u16 T)) :: (6, .ptr (0, 6) 0 0 0) :: (7, .ptr (0, 7) 0 0 0) :: (8, .ptr (0, 8) 0 0 0) :: l
def FpG (n : Net) (p : Pln) : Hp := ((Hp.none.put (0, 8) ⟨0, 3, [plnD (onP n p)]⟩).put (0, 7) ⟨0, 3, [plnD p]⟩).put (0, 6) ⟨0, 6, [netD n]⟩
set_option maxHeartbeats 16000000 in
theorem FP_c (ns : List Int) (hns : ∀ n ∈ ns, InI n) (T : Nat) (hT : T < 65536) (nn : Nm) : CallsA Try.prog 4 [.sl (ns.map fun n => [di n]), .v (.int .u16 T)] Hp.none nn (Pu (db true) Hp.none) := by
  obtain ⟨code, h1, h2⟩ := c4_ok
  refine callsA_of TL1_ok mixed (N := fun t => (0, t)) Try.func4 h1 h2 r4_ok [] false js_nil js_nil' (by simp [Try.f4]) ?_
  have ho : SrcOk ((ns.map fun n => [di n]).take 2000) 0 := src_new ns hns
  simp (config := { maxSteps := 500000 }) only [↓vp, vv, implies_true, forall_const, undef, InI, ↓reduceIte, simprocAttr, c4, TL1, rowNew, sel0, ho, Net.enc]
  intro a1 n hn
  have hck := check_ok hn
  have hv := check0 hck
  have hnl := hv.nl
  have hpp := ports1 hn
  have hn1 : netOf1 [D.sl (n.nodes.map nmRow), .sl (n.segs.map Seg.row), .sl (n.ports.map Port.row), .sl (n.sts.map Stn.row), di n.vap, di n.set] = some n := netOf1_row n
  simp (config := { maxSteps := 500000 }) only [↓vp, vv, implies_true, forall_const, undef, InI, ↓reduceIte, simprocAttr, TL1, selPlan, hn1, hv, hpp, a1.2, Pln.enc, plnD]
  intro a2 p hpl
  refine rng_loop n.sts.length (fun j => ⟨fr (FpF T [(9, di (j : Nat))]), FpH n p j⟩) (fun _ => True) ((weak_ownC (0, 8) 0 3 [.sl (p.rates.map iRow), .sl (p.ports.map iRow)] [] (0, 1001) 1 (by simp (config := { maxSteps := 500000 }) only [↓vp, vv, implies_true, forall_const, undef, InI, ↓reduceIte, simprocAttr, ]) (by simp (config := { maxSteps := 500000 }) only [↓vp, vv, implies_true, forall_const, undef, InI, ↓reduceIte, simprocAttr, ])).trans (weak_eq [] [(0, 6), (0, 7), (0, 8), (0, 1001)] (FpF T [(9, di 0)]) (by simp (config := { maxSteps := 500000 }) only [↓vp, vv, implies_true, forall_const, undef, InI, ↓reduceIte, simprocAttr, coverS, FpF, FpH, netD, plnD, bRow, trs_0]) (by simp (config := { maxSteps := 500000 }) only [↓vp, vv, implies_true, forall_const, undef, InI, ↓reduceIte, simprocAttr, refsF, FpF, FpH, netD, plnD, bRow, trs_0]) (by simp (config := { maxSteps := 500000 }) only [↓vp, vv, implies_true, forall_const, undef, InI, ↓reduceIte, simprocAttr, FpF, FpH, netD, plnD, bRow, trs_0]) (by simp) (by simp (config := { maxSteps := 500000 }) only [↓vp, vv, implies_true, forall_const, undef, InI, ↓reduceIte, simprocAttr, FpF, FpH, netD, plnD, bRow, trs_0]; try rfl))) trivial (fun j hj _ => ?_) (fun _ => ?_)
  · have hj' : (j : Int) < n.sts.length := by omega
    have hjn := idx_nn j
    have htl := hv.tl
    have w1 := idx_next (j := j) (by omega)
    have y1 : (j + 1) * 1 ≤ 140737488355328 := by omega
    have y2 : j + 1 ≤ 4611686018427387904 := by omega
    simp (config := { maxSteps := 500000 }) only [↓vp, vv, implies_true, forall_const, undef, InI, ↓reduceIte, simprocAttr, c4_1, c4_2, FpF, FpH, netD, plnD, hj', hjn, w1, y1, y2, Int.toNat_natCast, trs_len]
    exact rng_next hj (weak_eq [] [(0, 6), (0, 7), (0, 8), (0, 1001)] (FpF T [(9, di (j + 1 : Nat))]) (by simp (config := { maxSteps := 500000 }) only [↓vp, vv, implies_true, forall_const, undef, InI, ↓reduceIte, simprocAttr, coverS, FpF, FpH, netD, plnD, bRow, w1, trs_succ, List.map_append]) (by simp (config := { maxSteps := 500000 }) only [↓vp, vv, implies_true, forall_const, undef, InI, ↓reduceIte, simprocAttr, refsF, FpF, FpH, netD, plnD, bRow, w1, trs_succ, List.map_append]) (by simp (config := { maxSteps := 500000 }) only [↓vp, vv, implies_true, forall_const, undef, InI, ↓reduceIte, simprocAttr, FpF, FpH, netD, plnD, bRow, w1, trs_succ, List.map_append]) (by simp) (by simp (config := { maxSteps := 500000 }) only [↓vp, vv, implies_true, forall_const, undef, InI, ↓reduceIte, simprocAttr, FpF, FpH, netD, plnD, bRow, w1, trs_succ, List.map_append]; try rfl)) trivial
  · simp (config := { maxSteps := 500000 }) only [↓vp, vv, implies_true, forall_const, undef, InI, ↓reduceIte, simprocAttr, c4_2, FpF, FpH, netD, plnD, Int.lt_irrefl]
    have ra := fun R => rows_pl iRow (fun _ => rfl) R
    have rb := fun R => rows_pl bRow (fun _ => rfl) R
    have rc := fun ks H R => rows_ok iRow (fun _ => rfl) ks H R
    have rd := fun ks H R => rows_ok bRow (fun _ => rfl) ks H R
    have t3 : ∀ k, ((trs k).map bRow).take k = (trs k).map bRow := fun k => List.take_of_length_le (by simp [trs_len])
    refine vc_wk ((weak_eq [] [(0, 6), (0, 7), (0, 8), (0, 1001)] (FpF T [])
      (H' := hp [((0, 6), ⟨0, 6, [netD n]⟩), ((0, 7), ⟨0, 3, [plnD p]⟩), ((0, 8), ⟨0, 3, [[.sl (p.rates.map iRow), .sl (p.ports.map iRow), .own (0, 1001) n.sts.length 0 n.sts.length]]⟩), ((0, 1001), ⟨n.sts.length, 1, ((trs n.sts.length)).map bRow⟩)])
      (by simp (config := { maxSteps := 500000 }) only [↓vp, vv, implies_true, forall_const, undef, InI, ↓reduceIte, simprocAttr, coverS, FpF]) (by simp (config := { maxSteps := 500000 }) only [↓vp, vv, implies_true, forall_const, undef, InI, ↓reduceIte, simprocAttr, refsF, FpF]) (by simp (config := { maxSteps := 500000 }) only [↓vp, vv, implies_true, forall_const, undef, InI, ↓reduceIte, simprocAttr, iRow, bRow]) (by simp) (by simp (config := { maxSteps := 500000 }) only [↓vp, vv, implies_true, forall_const, undef, InI, ↓reduceIte, simprocAttr, hp_cons, hp_nil, netD, plnD]; try rfl)).trans
      (weak_fz [(0, 1001)] [(0, 6), (0, 7), (0, 8)] (l := (FpF T [])) (h := _) (l' := (FpF T [])) (H' := (FpG n p)) (by simp (config := { maxSteps := 500000 }) only [↓vp, vv, implies_true, forall_const, undef, InI, ↓reduceIte, simprocAttr, vz, listB, okKd, okK, lendKd, lendK, lendOk1B, frzF, Option.map_some, cond_true, cond_false, decide_true, decide_false, Bool.and_self, FpF, FpG, onP, ra, rb, rc, rd, t3, netD, plnD, trs_len]) (by simp (config := { maxSteps := 500000 }) only [↓vp, vv, implies_true, forall_const, undef, InI, ↓reduceIte, simprocAttr, vz, listB, okKd, okK, lendKd, lendK, lendOk1B, frzF, Option.map_some, cond_true, cond_false, decide_true, decide_false, Bool.and_self, FpF, FpG, onP, ra, rb, rc, rd, t3, netD, plnD, trs_len]) (by simp (config := { maxSteps := 500000 }) only [↓vp, vv, implies_true, forall_const, undef, InI, ↓reduceIte, simprocAttr, vz, listB, okKd, okK, lendKd, lendK, lendOk1B, frzF, Option.map_some, cond_true, cond_false, decide_true, decide_false, Bool.and_self, FpF, FpG, onP, ra, rb, rc, rd, t3, netD, plnD, trs_len]; try rfl) (by simp (config := { maxSteps := 500000 }) only [↓vp, vv, implies_true, forall_const, undef, InI, ↓reduceIte, simprocAttr, vz, listB, okKd, okK, lendKd, lendK, lendOk1B, frzF, Option.map_some, cond_true, cond_false, decide_true, decide_false, Bool.and_self, FpF, FpG, onP, ra, rb, rc, rd, t3, netD, plnD, trs_len]; try rfl) (by simp (config := { maxSteps := 500000 }) only [↓vp, vv, implies_true, forall_const, undef, InI, ↓reduceIte, simprocAttr, vz, listB, okKd, okK, lendKd, lendK, lendOk1B, frzF, Option.map_some, cond_true, cond_false, decide_true, decide_false, Bool.and_self, refsF, FpF, FpG, onP, ra, rb, rc, rd, t3, netD, plnD, trs_len]) (by simp (config := { maxSteps := 500000 }) only [↓vp, vv, implies_true, forall_const, undef, InI, ↓reduceIte, simprocAttr, vz, listB, okKd, okK, lendKd, lendK, lendOk1B, frzF, Option.map_some, cond_true, cond_false, decide_true, decide_false, Bool.and_self, FpF, FpG, onP, ra, rb, rc, rd, t3, netD, plnD, trs_len]) (by simp))) ?_
    simp (config := { maxSteps := 500000 }) only [↓vp, vv, implies_true, forall_const, undef, InI, ↓reduceIte, simprocAttr, c4_17, FpF, FpG, netD, plnD]
    have hrl := hpl.rl
    have hql := hpl.ql
    have hsl := hv.sl
    have hpn := hv.ql
    have hZl : (n.segs.zip p.rates).length = n.segs.length := by rw [List.length_zip]; omega
    have hYl : (n.ports.zip p.ports).length = n.ports.length := by rw [List.length_zip]; omega
    have hlaw := grp_law hv hpl.bal (gW T)
    have hrb := rate_b hpl
    have bI := fun j => sum_b1 (grpI_b (gW T) hrb) (n.segs.zip p.rates) (fun x hx => hx) j
    have bO := fun j => sum_b1 (grpO_b (gW T) hrb) (n.segs.zip p.rates) (fun x hx => hx) j
    have bPI := fun j => sum_b1 (grpPI_b (gW T) hpl) (n.ports.zip p.ports) (fun x hx => hx) j
    have bPO := fun j => sum_b1 (grpPO_b (gW T) hpl) (n.ports.zip p.ports) (fun x hx => hx) j
    refine rng_loop n.segs.length (fun j => ⟨fr (FpF T [(10, di (sumI (grpI (gW T)) ((n.segs.zip p.rates).take j))), (11, di (sumI (grpO (gW T)) ((n.segs.zip p.rates).take j))), (48, .sl (n.segs.map Seg.row)), (49, di n.segs.length), (50, di (j : Nat))]), FpG n p⟩) (fun _ => True) (weak_eq [] [(0, 6), (0, 7), (0, 8)] (FpF T [(10, di 0), (11, di 0), (48, .sl (n.segs.map Seg.row)), (49, di n.segs.length), (50, di 0)]) (by simp (config := { maxSteps := 500000 }) only [↓vp, vv, implies_true, forall_const, undef, InI, ↓reduceIte, simprocAttr, coverS, FpF, FpG, netD, plnD]) (by simp (config := { maxSteps := 500000 }) only [↓vp, vv, implies_true, forall_const, undef, InI, ↓reduceIte, simprocAttr, refsF, FpF, FpG, netD, plnD]) (by simp (config := { maxSteps := 500000 }) only [↓vp, vv, implies_true, forall_const, undef, InI, ↓reduceIte, simprocAttr, FpF, FpG, netD, plnD]) (by simp) (by simp (config := { maxSteps := 500000 }) only [↓vp, vv, implies_true, forall_const, undef, InI, ↓reduceIte, simprocAttr, FpF, FpG, netD, plnD]; try rfl)) trivial (fun j hj _ => ?_) (fun _ => ?_)
    · have hj' : (j : Int) < n.segs.length := by omega
      have hjn := idx_nn j
      have hjr : j < p.rates.length := by omega
      have hjr' : (j : Int) < p.rates.length := by omega
      have w1 := idx_next (j := j) (by omega)
      have hgs : (n.segs.map Seg.row).getD j [] = Seg.row n.segs[j] := getD_map Seg.row n.segs j hj
      have hgr := iRow_at p.rates j hjr
      have hx := zip_get hj hjr
      have hm := hrb _ (List.mem_of_getElem? hx)
      have hse := hv.se _ (List.getElem_mem hj)
      have eI := sumI_tk (grpI (gW T)) hx
      have eO := sumI_tk (grpO (gW T)) hx
      have b1 := bI j
      have b2 := bO j
      have b3 := bI (j + 1)
      have b4 := bO (j + 1)
      generalize n.segs[j] = s at hgs hx hse eI eO hm
      generalize p.rates[j] = r at hgr hx eI eO hm
      have hs1 : segOf1 [ds s.name, di s.fr, di s.to, di s.cap, di s.resist, di s.wave, .sl (s.points.map Pt.row)] = some s := segOf1_row s
      cases c1 : (r == (0 : Int)) with
      | true =>
        have r0 : r = 0 := by simpa using c1
        have e1 : grpI (gW T) (s, r) = 0 := if_pos r0
        have e2 : grpO (gW T) (s, r) = 0 := if_pos r0
        rw [e1, Int.add_zero] at eI
        rw [e2, Int.add_zero] at eO
        simp (config := { maxSteps := 500000 }) only [↓vp, vv, implies_true, forall_const, undef, InI, ↓reduceIte, simprocAttr, c4_6, c4_7, c4_5, FpF, FpG, netD, plnD, hj', hjn, hjr', Int.toNat_natCast, hgs, hgr, c1, w1, Seg.row]
        exact rng_next hj (weak_eq [] [(0, 6), (0, 7), (0, 8)] (FpF T [(10, di (sumI (grpI (gW T)) ((n.segs.zip p.rates).take (j + 1)))), (11, di (sumI (grpO (gW T)) ((n.segs.zip p.rates).take (j + 1)))), (48, .sl (n.segs.map Seg.row)), (49, di n.segs.length), (50, di (j + 1 : Nat))]) (by simp (config := { maxSteps := 500000 }) only [↓vp, vv, implies_true, forall_const, undef, InI, ↓reduceIte, simprocAttr, coverS, FpF, FpG, netD, plnD, w1, eI, eO]) (by simp (config := { maxSteps := 500000 }) only [↓vp, vv, implies_true, forall_const, undef, InI, ↓reduceIte, simprocAttr, refsF, FpF, FpG, netD, plnD, w1, eI, eO]) (by simp (config := { maxSteps := 500000 }) only [↓vp, vv, implies_true, forall_const, undef, InI, ↓reduceIte, simprocAttr, FpF, FpG, netD, plnD, w1, eI, eO]) (by simp) (by simp (config := { maxSteps := 500000 }) only [↓vp, vv, implies_true, forall_const, undef, InI, ↓reduceIte, simprocAttr, FpF, FpG, netD, plnD, w1, eI, eO]; try rfl)) trivial
      | false =>
        have r0 : ¬ r = 0 := by simpa using c1
        have hab : -1000000 ≤ r ∧ r ≤ 1000000 := by dsimp only at hm; omega
        have hfr : 0 ≤ frOf (s, r) := by unfold frOf; dsimp only; split <;> omega
        have hto : 0 ≤ toOf (s, r) := by unfold toOf; dsimp only; split <;> omega
        have e1 : grpI (gW T) (s, r) = if gW T (frOf (s, r)) = true then 0 else if gW T (toOf (s, r)) = true then absI r else 0 := if_neg r0
        have e2 : grpO (gW T) (s, r) = if gW T (frOf (s, r)) = true then (if gW T (toOf (s, r)) = true then 0 else absI r) else 0 := if_neg r0
        have bE := bit_e T
        rw [e1] at eI
        rw [e2] at eO
        rcases gw_01 T (frOf (s, r)) with ⟨u1, u2⟩ | ⟨u1, u2⟩ <;> rcases gw_01 T (toOf (s, r)) with ⟨u3, u4⟩ | ⟨u3, u4⟩ <;> simp only [u2, u4, if_true, if_false, Bool.false_eq_true, Int.add_zero] at eI eO
        all_goals
          try (have w2 : IntKind.i64.wrap (sumI (grpI (gW T)) ((n.segs.zip p.rates).take j) + absI r) = sumI (grpI (gW T)) ((n.segs.zip p.rates).take (j + 1)) := by rw [← eI]; exact wrap_i (by omega))
          try (have w3 : IntKind.i64.wrap (sumI (grpO (gW T)) ((n.segs.zip p.rates).take j) + absI r) = sumI (grpO (gW T)) ((n.segs.zip p.rates).take (j + 1)) := by rw [← eO]; exact wrap_i (by omega))
        · simp (config := { maxSteps := 500000 }) only [↓vp, vv, implies_true, forall_const, undef, InI, ↓reduceIte, simprocAttr, c4_6, c4_7, c4_5, c4_4, c4_3, TL1, selEnds, selAbs, FpF, FpG, netD, plnD, hj', hjn, hjr', Int.toNat_natCast, hgs, hgr, hs1, c1, w1, hab, hfr, hto, bE, u1, u3, Seg.row]
          exact rng_next hj (weak_eq [] [(0, 6), (0, 7), (0, 8)] (FpF T [(10, di (sumI (grpI (gW T)) ((n.segs.zip p.rates).take (j + 1)))), (11, di (sumI (grpO (gW T)) ((n.segs.zip p.rates).take (j + 1)))), (48, .sl (n.segs.map Seg.row)), (49, di n.segs.length), (50, di (j + 1 : Nat))]) (by simp (config := { maxSteps := 500000 }) only [↓vp, vv, implies_true, forall_const, undef, InI, ↓reduceIte, simprocAttr, coverS, FpF, FpG, netD, plnD, w1, eI, eO]) (by simp (config := { maxSteps := 500000 }) only [↓vp, vv, implies_true, forall_const, undef, InI, ↓reduceIte, simprocAttr, refsF, FpF, FpG, netD, plnD, w1, eI, eO]) (by simp (config := { maxSteps := 500000 }) only [↓vp, vv, implies_true, forall_const, undef, InI, ↓reduceIte, simprocAttr, FpF, FpG, netD, plnD, w1, eI, eO]) (by simp) (by simp (config := { maxSteps := 500000 }) only [↓vp, vv, implies_true, forall_const, undef, InI, ↓reduceIte, simprocAttr, FpF, FpG, netD, plnD, w1, eI, eO]; try rfl)) trivial
        · rw [eI] at w2
          simp (config := { maxSteps := 500000 }) only [↓vp, vv, implies_true, forall_const, undef, InI, ↓reduceIte, simprocAttr, c4_6, c4_7, c4_5, c4_4, c4_3, TL1, selEnds, selAbs, FpF, FpG, netD, plnD, hj', hjn, hjr', Int.toNat_natCast, hgs, hgr, hs1, c1, w1, hab, hfr, hto, bE, u1, u3, Seg.row, w2]
          exact rng_next hj (weak_eq [] [(0, 6), (0, 7), (0, 8)] (FpF T [(10, di (sumI (grpI (gW T)) ((n.segs.zip p.rates).take (j + 1)))), (11, di (sumI (grpO (gW T)) ((n.segs.zip p.rates).take (j + 1)))), (48, .sl (n.segs.map Seg.row)), (49, di n.segs.length), (50, di (j + 1 : Nat))]) (by simp (config := { maxSteps := 500000 }) only [↓vp, vv, implies_true, forall_const, undef, InI, ↓reduceIte, simprocAttr, coverS, FpF, FpG, netD, plnD, w1, w2, eI, eO]) (by simp (config := { maxSteps := 500000 }) only [↓vp, vv, implies_true, forall_const, undef, InI, ↓reduceIte, simprocAttr, refsF, FpF, FpG, netD, plnD, w1, w2, eI, eO]) (by simp (config := { maxSteps := 500000 }) only [↓vp, vv, implies_true, forall_const, undef, InI, ↓reduceIte, simprocAttr, FpF, FpG, netD, plnD, w1, w2, eI, eO]) (by simp) (by simp (config := { maxSteps := 500000 }) only [↓vp, vv, implies_true, forall_const, undef, InI, ↓reduceIte, simprocAttr, FpF, FpG, netD, plnD, w1, w2, eI, eO]; try rfl)) trivial
        · rw [eO] at w3
          simp (config := { maxSteps := 500000 }) only [↓vp, vv, implies_true, forall_const, undef, InI, ↓reduceIte, simprocAttr, c4_6, c4_7, c4_5, c4_4, c4_3, TL1, selEnds, selAbs, FpF, FpG, netD, plnD, hj', hjn, hjr', Int.toNat_natCast, hgs, hgr, hs1, c1, w1, hab, hfr, hto, bE, u1, u3, Seg.row, w3]
          exact rng_next hj (weak_eq [] [(0, 6), (0, 7), (0, 8)] (FpF T [(10, di (sumI (grpI (gW T)) ((n.segs.zip p.rates).take (j + 1)))), (11, di (sumI (grpO (gW T)) ((n.segs.zip p.rates).take (j + 1)))), (48, .sl (n.segs.map Seg.row)), (49, di n.segs.length), (50, di (j + 1 : Nat))]) (by simp (config := { maxSteps := 500000 }) only [↓vp, vv, implies_true, forall_const, undef, InI, ↓reduceIte, simprocAttr, coverS, FpF, FpG, netD, plnD, w1, w3, eI, eO]) (by simp (config := { maxSteps := 500000 }) only [↓vp, vv, implies_true, forall_const, undef, InI, ↓reduceIte, simprocAttr, refsF, FpF, FpG, netD, plnD, w1, w3, eI, eO]) (by simp (config := { maxSteps := 500000 }) only [↓vp, vv, implies_true, forall_const, undef, InI, ↓reduceIte, simprocAttr, FpF, FpG, netD, plnD, w1, w3, eI, eO]) (by simp) (by simp (config := { maxSteps := 500000 }) only [↓vp, vv, implies_true, forall_const, undef, InI, ↓reduceIte, simprocAttr, FpF, FpG, netD, plnD, w1, w3, eI, eO]; try rfl)) trivial
        · simp (config := { maxSteps := 500000 }) only [↓vp, vv, implies_true, forall_const, undef, InI, ↓reduceIte, simprocAttr, c4_6, c4_7, c4_5, c4_4, c4_3, TL1, selEnds, selAbs, FpF, FpG, netD, plnD, hj', hjn, hjr', Int.toNat_natCast, hgs, hgr, hs1, c1, w1, hab, hfr, hto, bE, u1, u3, Seg.row]
          exact rng_next hj (weak_eq [] [(0, 6), (0, 7), (0, 8)] (FpF T [(10, di (sumI (grpI (gW T)) ((n.segs.zip p.rates).take (j + 1)))), (11, di (sumI (grpO (gW T)) ((n.segs.zip p.rates).take (j + 1)))), (48, .sl (n.segs.map Seg.row)), (49, di n.segs.length), (50, di (j + 1 : Nat))]) (by simp (config := { maxSteps := 500000 }) only [↓vp, vv, implies_true, forall_const, undef, InI, ↓reduceIte, simprocAttr, coverS, FpF, FpG, netD, plnD, w1, eI, eO]) (by simp (config := { maxSteps := 500000 }) only [↓vp, vv, implies_true, forall_const, undef, InI, ↓reduceIte, simprocAttr, refsF, FpF, FpG, netD, plnD, w1, eI, eO]) (by simp (config := { maxSteps := 500000 }) only [↓vp, vv, implies_true, forall_const, undef, InI, ↓reduceIte, simprocAttr, FpF, FpG, netD, plnD, w1, eI, eO]) (by simp) (by simp (config := { maxSteps := 500000 }) only [↓vp, vv, implies_true, forall_const, undef, InI, ↓reduceIte, simprocAttr, FpF, FpG, netD, plnD, w1, eI, eO]; try rfl)) trivial
    · have bA := bI n.segs.length
      have bB := bO n.segs.length
      rw [← hZl, List.take_length] at bA bB
      rw [← hZl, List.take_length]
      generalize sumI (grpI (gW T)) (n.segs.zip p.rates) = A at hlaw bA
      generalize sumI (grpO (gW T)) (n.segs.zip p.rates) = B at hlaw bB
      simp (config := { maxSteps := 500000 }) only [↓vp, vv, implies_true, forall_const, undef, InI, ↓reduceIte, simprocAttr, c4_7, c4_16, FpF, FpG, netD, plnD, hZl, Int.lt_irrefl]
      refine rng_loop n.ports.length (fun j => ⟨fr (FpF T [(10, di (A + sumI (grpPI (gW T)) ((n.ports.zip p.ports).take j))), (11, di (B + sumI (grpPO (gW T)) ((n.ports.zip p.ports).take j))), (113, .sl (n.ports.map Port.row)), (114, di n.ports.length), (115, di (j : Nat))]), FpG n p⟩) (fun _ => True) (weak_eq [] [(0, 6), (0, 7), (0, 8)] (FpF T [(10, di (A + sumI (grpPI (gW T)) ((n.ports.zip p.ports).take 0))), (11, di (B + sumI (grpPO (gW T)) ((n.ports.zip p.ports).take 0))), (113, .sl (n.ports.map Port.row)), (114, di n.ports.length), (115, di 0)]) (by simp (config := { maxSteps := 500000 }) only [↓vp, vv, implies_true, forall_const, undef, InI, ↓reduceIte, simprocAttr, coverS, FpF, FpG, netD, plnD, List.take_zero, sumI, Int.add_zero]) (by simp (config := { maxSteps := 500000 }) only [↓vp, vv, implies_true, forall_const, undef, InI, ↓reduceIte, simprocAttr, refsF, FpF, FpG, netD, plnD, List.take_zero, sumI, Int.add_zero]) (by simp (config := { maxSteps := 500000 }) only [↓vp, vv, implies_true, forall_const, undef, InI, ↓reduceIte, simprocAttr, FpF, FpG, netD, plnD, List.take_zero, sumI, Int.add_zero]) (by simp) (by simp (config := { maxSteps := 500000 }) only [↓vp, vv, implies_true, forall_const, undef, InI, ↓reduceIte, simprocAttr, FpF, FpG, netD, plnD, List.take_zero, sumI, Int.add_zero]; try rfl)) trivial (fun j hj _ => ?_) (fun _ => ?_)
      · have hj' : (j : Int) < n.ports.length := by omega
        have hjn := idx_nn j
        have hjr : j < p.ports.length := by omega
        have hjr' : (j : Int) < p.ports.length := by omega
        have w1 := idx_next (j := j) (by omega)
        have hgs : (n.ports.map Port.row).getD j [] = Port.row n.ports[j] := getD_map Port.row n.ports j hj
        have hgr := iRow_at p.ports j hjr
        have hx := zip_get hj hjr
        have hm := hpl.qb _ (List.getElem_mem hjr)
        have hpe := hv.pe _ (List.getElem_mem hj)
        have eI := sumI_tk (grpPI (gW T)) hx
        have eO := sumI_tk (grpPO (gW T)) hx
        have b1 := bPI j
        have b2 := bPO j
        have b3 := bPI (j + 1)
        have b4 := bPO (j + 1)
        generalize n.ports[j] = x at hgs hx hpe eI eO
        generalize p.ports[j] = q at hgr hx eI eO hm
        have e1 : grpPI (gW T) (x, q) = if gW T x.node = true then posI q else 0 := rfl
        have e2 : grpPO (gW T) (x, q) = if gW T x.node = true then negI q else 0 := rfl
        have bE := bit_e T
        have hnd := hpe.1
        have wn : IntKind.i64.wrap (0 - q) = -q := by rw [wrap_i (by omega)]; omega
        have ep : (if 0 < q then q else 0) = posI q := rfl
        have en : (if 0 < -q then -q else 0) = negI q := rfl
        rw [e1] at eI
        rw [e2] at eO
        rcases gw_01 T x.node with ⟨u1, u2⟩ | ⟨u1, u2⟩ <;> simp only [u2, if_true, if_false, Bool.false_eq_true, Int.add_zero] at eI eO
        · simp (config := { maxSteps := 500000 }) only [↓vp, vv, implies_true, forall_const, undef, InI, ↓reduceIte, simprocAttr, c4_8, c4_9, c4_10, FpF, FpG, netD, plnD, hj', hjn, hjr', Int.toNat_natCast, hgs, hgr, w1, hnd, bE, u1, Port.row]
          exact rng_next hj (weak_eq [] [(0, 6), (0, 7), (0, 8)] (FpF T [(10, di (A + sumI (grpPI (gW T)) ((n.ports.zip p.ports).take (j + 1)))), (11, di (B + sumI (grpPO (gW T)) ((n.ports.zip p.ports).take (j + 1)))), (113, .sl (n.ports.map Port.row)), (114, di n.ports.length), (115, di (j + 1 : Nat))]) (by simp (config := { maxSteps := 500000 }) only [↓vp, vv, implies_true, forall_const, undef, InI, ↓reduceIte, simprocAttr, coverS, FpF, FpG, netD, plnD, w1, eI, eO]) (by simp (config := { maxSteps := 500000 }) only [↓vp, vv, implies_true, forall_const, undef, InI, ↓reduceIte, simprocAttr, refsF, FpF, FpG, netD, plnD, w1, eI, eO]) (by simp (config := { maxSteps := 500000 }) only [↓vp, vv, implies_true, forall_const, undef, InI, ↓reduceIte, simprocAttr, FpF, FpG, netD, plnD, w1, eI, eO]) (by simp) (by simp (config := { maxSteps := 500000 }) only [↓vp, vv, implies_true, forall_const, undef, InI, ↓reduceIte, simprocAttr, FpF, FpG, netD, plnD, w1, eI, eO]; try rfl)) trivial
        · have w2 : IntKind.i64.wrap (A + sumI (grpPI (gW T)) ((n.ports.zip p.ports).take j) + posI q) = A + sumI (grpPI (gW T)) ((n.ports.zip p.ports).take (j + 1)) := by rw [eI]; rw [wrap_i (by omega)]; omega
          have w3 : IntKind.i64.wrap (B + sumI (grpPO (gW T)) ((n.ports.zip p.ports).take j) + negI q) = B + sumI (grpPO (gW T)) ((n.ports.zip p.ports).take (j + 1)) := by rw [eO]; rw [wrap_i (by omega)]; omega
          simp (config := { maxSteps := 500000 }) only [↓vp, vv, implies_true, forall_const, undef, InI, ↓reduceIte, simprocAttr, c4_8, c4_9, c4_10, FpF, FpG, netD, plnD, hj', hjn, hjr', Int.toNat_natCast, hgs, hgr, w1, hnd, bE, u1, wn, ep, en, w2, w3, Port.row]
          exact rng_next hj (weak_eq [] [(0, 6), (0, 7), (0, 8)] (FpF T [(10, di (A + sumI (grpPI (gW T)) ((n.ports.zip p.ports).take (j + 1)))), (11, di (B + sumI (grpPO (gW T)) ((n.ports.zip p.ports).take (j + 1)))), (113, .sl (n.ports.map Port.row)), (114, di n.ports.length), (115, di (j + 1 : Nat))]) (by simp (config := { maxSteps := 500000 }) only [↓vp, vv, implies_true, forall_const, undef, InI, ↓reduceIte, simprocAttr, coverS, FpF, FpG, netD, plnD, w1, w2, w3]) (by simp (config := { maxSteps := 500000 }) only [↓vp, vv, implies_true, forall_const, undef, InI, ↓reduceIte, simprocAttr, refsF, FpF, FpG, netD, plnD, w1, w2, w3]) (by simp (config := { maxSteps := 500000 }) only [↓vp, vv, implies_true, forall_const, undef, InI, ↓reduceIte, simprocAttr, FpF, FpG, netD, plnD, w1, w2, w3]) (by simp) (by simp (config := { maxSteps := 500000 }) only [↓vp, vv, implies_true, forall_const, undef, InI, ↓reduceIte, simprocAttr, FpF, FpG, netD, plnD, w1, w2, w3]; try rfl)) trivial
      · rw [← hYl, List.take_length, hlaw]
        have hz := plan_sz hn hpl
        have f0 := plan0 hck hpl
        have hon : PlanOk n (onP n p) := ⟨hpl.rl, hpl.ql, trs_len _, hpl.rb, hpl.qb, hpl.bal, hpl.mono⟩
        have hz2 := plan_sz hn hon
        have f2 := plan0 hck hon
        have hp1 : plnOf1 [D.sl (p.rates.map iRow), .sl (p.ports.map iRow), .sl (p.pumps.map bRow)] = some p := plnOf1_row p
        have hp2 : plnOf1 [D.sl ((onP n p).rates.map iRow), .sl ((onP n p).ports.map iRow), .sl ((onP n p).pumps.map bRow)] = some (onP n p) := plnOf1_row (onP n p)
        have hthr : ∀ j : Nat, j < n.nodes.length → thrI n p j = (sumI (comeOf (j : Int)) (flowsOf n p), 0) := fun j hj => by
          unfold thrI
          rw [if_pos f0, if_neg (by omega), if_neg (by omega)]
        have hthr2 : ∀ j : Nat, j < n.nodes.length → thrI n (onP n p) j = (sumI (comeOf (j : Int)) (flowsOf n p), 0) := fun j hj => by
          unfold thrI
          rw [if_pos f2, if_neg (by omega), if_neg (by omega)]
          rfl
        generalize B + sumI (grpPO (gW T)) (n.ports.zip p.ports) = E
        simp (config := { maxSteps := 500000 }) only [↓vp, vv, implies_true, forall_const, undef, InI, ↓reduceIte, simprocAttr, c4_10, c4_15, FpF, FpG, netD, plnD, hYl, Int.lt_irrefl]
        refine rng_loop n.nodes.length (fun j => ⟨fr [(6, .ptr (0, 6) 0 0 0), (7, .ptr (0, 7) 0 0 0), (8, .ptr (0, 8) 0 0 0), (10, di E), (11, di E), (146, di n.nodes.length), (147, di (j : Nat))], FpG n p⟩) (fun _ => True) (weak_eq [] [(0, 6), (0, 7), (0, 8)] [(6, .ptr (0, 6) 0 0 0), (7, .ptr (0, 7) 0 0 0), (8, .ptr (0, 8) 0 0 0), (10, di E), (11, di E), (146, di n.nodes.length), (147, di 0)] (by simp (config := { maxSteps := 500000 }) only [↓vp, vv, implies_true, forall_const, undef, InI, ↓reduceIte, simprocAttr, coverS, FpG, netD, plnD]) (by simp (config := { maxSteps := 500000 }) only [↓vp, vv, implies_true, forall_const, undef, InI, ↓reduceIte, simprocAttr, refsF, FpG, netD, plnD]) (by simp (config := { maxSteps := 500000 }) only [↓vp, vv, implies_true, forall_const, undef, InI, ↓reduceIte, simprocAttr, FpG, netD, plnD]) (by simp) (by simp (config := { maxSteps := 500000 }) only [↓vp, vv, implies_true, forall_const, undef, InI, ↓reduceIte, simprocAttr, FpG, netD, plnD]; try rfl)) trivial (fun j hj _ => ?_) (fun _ => ?_)
        · have hj' : (j : Int) < n.nodes.length := by omega
          have hjn := idx_nn j
          have w1 := idx_next (j := j) (by omega)
          have t1 := hthr j hj
          have t2 := hthr2 j hj
          simp (config := { maxSteps := 500000 }) only [↓vp, vv, implies_true, forall_const, undef, InI, ↓reduceIte, simprocAttr, c4_11, c4_12, c4_13, TL1, selThr, FpG, netD, plnD, hn1, hp1, hp2, hz, hz2, hj', hjn, t1, t2, w1, bne_self_eq_false]
          exact rng_next hj (weak_eq [] [(0, 6), (0, 7), (0, 8)] [(6, .ptr (0, 6) 0 0 0), (7, .ptr (0, 7) 0 0 0), (8, .ptr (0, 8) 0 0 0), (10, di E), (11, di E), (146, di n.nodes.length), (147, di (j + 1 : Nat))] (by simp (config := { maxSteps := 500000 }) only [↓vp, vv, implies_true, forall_const, undef, InI, ↓reduceIte, simprocAttr, coverS, FpG, netD, plnD, w1]) (by simp (config := { maxSteps := 500000 }) only [↓vp, vv, implies_true, forall_const, undef, InI, ↓reduceIte, simprocAttr, refsF, FpG, netD, plnD, w1]) (by simp (config := { maxSteps := 500000 }) only [↓vp, vv, implies_true, forall_const, undef, InI, ↓reduceIte, simprocAttr, FpG, netD, plnD, w1]) (by simp) (by simp (config := { maxSteps := 500000 }) only [↓vp, vv, implies_true, forall_const, undef, InI, ↓reduceIte, simprocAttr, FpG, netD, plnD, w1]; try rfl)) trivial
        · simp (config := { maxSteps := 500000 }) only [↓vp, vv, implies_true, forall_const, undef, InI, ↓reduceIte, simprocAttr, c4_13, c4_14, r4, TL1, selAw, FpG, netD, plnD, Int.lt_irrefl, beq_self_eq_true, Pu]
theorem FlowParts_law (a : Option Addr) (len cap : Nat) (which : Int) (w : World) (h : ArgInts w a len cap) (h0 : 0 ≤ which) (h1 : which ≤ 65535) :
    Calls Try.prog 4 #[.slice a len cap, .int .u16 which] w (Ret (.bool true) w) := by
  refine law_ints (us := [.int .u16 which]) h fun ns hns => ?_
  have := FP_c ns hns which.toNat (by omega) (0, 0)
  rw [show ((which.toNat : Nat) : Int) = which by omega] at this
  exact this
end Go.Proofs.Ytfkhjkkhdfcnjaa
