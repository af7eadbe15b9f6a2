
/- Lineups: Valid, flows, Numbers, Need, Permits. -/
import Derived.Test.YtkjibmfggeibjaaFw4
import Derived.Test.YtkjibmfggeibjaaCodeLU
import Derived.Test.YtkjibmfggeibjaaGen5
import Derived.Test.YtkjibmfggeibjaaNw
import Derived.Test.YtkjibmfggeibjaaFlQ
/- Lineups: Valid, flows, Numbers, Need, Permits. -/
namespace Go.Proofs.Ytkjibmfggeibjaa
open Go
set_option linter.unusedVariables false
set_option linter.unusedSimpArgs false
set_option maxRecDepth 100000

structure Lnp where
  segs : List Bool
  ports : List Bool
def lnpD (l : Lnp) : List D := [.sl (l.segs.map bRow), .sl (l.ports.map bRow)]
def Lnp.enc (l : Lnp) : D := .agg (lnpD l)
def lnpOf1 : List D → Option Lnp
  | [.sl a, .sl b] => match lsOf boolOf1 a, lsOf boolOf1 b with
    | some x, some y => some ⟨x, y⟩
    | _, _ => Option.none
  | _ => Option.none
theorem lnpOf1_row (p : Lnp) : lnpOf1 (lnpD p) = some p := by
  unfold lnpD lnpOf1
  simp only [lsOf_map boolOf1_row]
theorem lnpOf1_eq {r : List D} {p : Lnp} (h : lnpOf1 r = some p) : r = lnpD p := by
  unfold lnpOf1 at h
  split at h
  · split at h
    · rename_i e1 e2
      cases h
      rw [lsOf_eq (fun r x => boolOf1_eq) e1, lsOf_eq (fun r x => boolOf1_eq) e2]
      rfl
    · cases h
  · cases h
def selNL (ok : Net → Lnp → Prop) (out : Net → Lnp → D) : List D → Option (Prop × D)
  | [.agg a, .agg b] => match netOf1 a, lnpOf1 b with
    | some n, some l => some (ok n l, out n l)
    | _, _ => Option.none
  | _ => Option.none
theorem tc_nl {f : FuncId} {T : Tbl} {ok : Net → Lnp → Prop} {out : Net → Lnp → D} (hf : fnOk Try.prog f = true) (h : ∀ n l, ok n l → ∀ nn, CallsA Try.prog f [n.enc, l.enc] Hp.none nn (Pu (out n l) Hp.none)) (hT : TblOk Try.prog T) : TblOk Try.prog (tc f (rowPu (selNL ok out)) T) :=
  tc_pu hf (fun args pre d hs hp nn => by
    unfold selNL at hs
    split at hs
    · split at hs
      · rename_i e1 e2
        cases hs
        rw [netOf1_eq e1, lnpOf1_eq e2]
        exact h _ _ hp nn
      · cases hs
    · cases hs) hT
def selL (ok : Lnp → Prop) (out : Lnp → D) : List D → Option (Prop × D)
  | [.agg b] => match lnpOf1 b with
    | some l => some (ok l, out l)
    | Option.none => Option.none
  | _ => Option.none
theorem tc_l {f : FuncId} {T : Tbl} {ok : Lnp → Prop} {out : Lnp → D} (hf : fnOk Try.prog f = true) (h : ∀ l, ok l → ∀ nn, CallsA Try.prog f [l.enc] Hp.none nn (Pu (out l) Hp.none)) (hT : TblOk Try.prog T) : TblOk Try.prog (tc f (rowPu (selL ok out)) T) :=
  tc_pu hf (fun args pre d hs hp nn => by
    unfold selL at hs
    split at hs
    · split at hs
      · rename_i e2
        cases hs
        rw [lnpOf1_eq e2]
        exact h _ hp nn
      · cases hs
    · cases hs) hT
def lvB (n : Net) (l : Lnp) : Bool := if ((l.segs.length : Int) == n.segs.length) = true then ((l.ports.length : Int) == n.ports.length) else false
set_option maxHeartbeats 2000000 in
theorem lvalid_c (n : Net) (l : Lnp) (nn : Nm) : CallsA Try.prog 108 [n.enc, l.enc] Hp.none nn (Pu (db (lvB n l)) Hp.none) := by
  obtain ⟨code, h1, h2⟩ := c108_ok
  refine callsA_of (T0_ok _) mixed (N := fun t => (0, t)) Try.func108 h1 h2 r108_ok [] false js_nil js_nil' (by simp [Try.f108]) ?_
  cases a1 : ((l.segs.length : Int) == n.segs.length) <;> simp (config := { maxSteps := 500000 }) only [↓vp, vv, implies_true, forall_const, undef, InI, ↓reduceIte, simprocAttr, c108, r108, r108, Net.enc, Lnp.enc, lnpD, a1, lvB, Pu]
set_option maxHeartbeats 2000000 in
theorem rlvalid_c (n : Net) (l : Lnp) (nn : Nm) : CallsA Try.prog 109 [n.enc, l.enc] Hp.none nn (Pu (db (lvB n l)) Hp.none) := by
  obtain ⟨code, h1, h2⟩ := c109_ok
  refine callsA_of (T0_ok _) mixed (N := fun t => (0, t)) Try.func109 h1 h2 r109_ok [] false js_nil js_nil' (by simp [Try.f109]) ?_
  cases a1 : ((l.segs.length : Int) == n.segs.length) <;> simp (config := { maxSteps := 500000 }) only [↓vp, vv, implies_true, forall_const, undef, InI, ↓reduceIte, simprocAttr, c109, r109, r109, Net.enc, Lnp.enc, lnpD, a1, lvB, Pu]
def nz (r : Int) : Bool := r != 0
theorem bRow_g (R : List Bool) (j : Nat) (h : j < R.length) : (R.map bRow).getD j [] = [db R[j]] := by rw [getD_map bRow R j h]; rfl
theorem bRow_len (b : Bool) : (bRow b).length = 1 := rfl
def nzs (R : List Int) (j : Nat) : List Bool := (R.take j).map nz
theorem nzs_len {R : List Int} {j : Nat} (h : j ≤ R.length) : (nzs R j).length = j := by unfold nzs; rw [List.length_map, List.length_take]; omega
theorem nzs_succ {R : List Int} {j : Nat} (h : j < R.length) : nzs R (j + 1) = nzs R j ++ [nz R[j]] := by unfold nzs; rw [← List.take_append_getElem h, List.map_append]; rfl
theorem nzs_all (R : List Int) : nzs R R.length = R.map nz := by unfold nzs; rw [List.take_length]

def FlwF (R : List Int) (j : Nat) : List (Nat × D) := [(3, .own (0, 1000) j 0 j), (6, .sl (R.map iRow)), (7, di R.length), (8, di j)]
def FlwH (R : List Int) (j : Nat) : Hp := Hp.none.put (0, 1000) ⟨j, 1, (nzs R j).map bRow⟩
set_option maxHeartbeats 4000000 in
theorem flows_c (R : List Int) (hR : R.length ≤ 1000000) (nn : Nm) : CallsA Try.prog 162 [.sl (R.map iRow)] Hp.none nn (Pu (.sl ((R.map nz).map bRow)) Hp.none) := by
  obtain ⟨code, h1, h2⟩ := c162_ok
  refine callsA_of (T0_ok _) mixed (N := fun t => (0, t)) Try.func162 h1 h2 r162_ok [] false js_nil js_nil' (by simp [Try.f162]) ?_
  simp (config := { maxSteps := 500000 }) only [↓vp, vv, implies_true, forall_const, undef, InI, ↓reduceIte, simprocAttr, c162]
  refine rng_loop R.length (fun j => ⟨fr (FlwF R j), FlwH R j⟩) (fun _ => True) ((weak_own 3 (0, 1000) 1 (by simp (config := { maxSteps := 500000 }) only [↓vp, vv, implies_true, forall_const, undef, InI, ↓reduceIte, simprocAttr, ]) (by simp (config := { maxSteps := 500000 }) only [↓vp, vv, implies_true, forall_const, undef, InI, ↓reduceIte, simprocAttr, ])).trans (weak_eq [] [(0, 1000)] (FlwF R 0) (by simp (config := { maxSteps := 500000 }) only [↓vp, vv, implies_true, forall_const, undef, InI, ↓reduceIte, simprocAttr, coverS, FlwF, FlwH, bRow, nzs, List.take_zero]) (by simp (config := { maxSteps := 500000 }) only [↓vp, vv, implies_true, forall_const, undef, InI, ↓reduceIte, simprocAttr, refsF, FlwF, FlwH, bRow, nzs, List.take_zero]) (by simp (config := { maxSteps := 500000 }) only [↓vp, vv, implies_true, forall_const, undef, InI, ↓reduceIte, simprocAttr, FlwF, FlwH, bRow, nzs, List.take_zero]) (by simp) (by simp (config := { maxSteps := 500000 }) only [↓vp, vv, implies_true, forall_const, undef, InI, ↓reduceIte, simprocAttr, FlwF, FlwH, bRow, nzs, List.take_zero]; try rfl))) trivial (fun j hj _ => ?_) (fun _ => ?_)
  · have hj' : (j : Int) < R.length := by omega
    have hjn := idx_nn j
    have w1 := idx_next (j := j) (by omega)
    have hg := iRow_at R j hj
    have ht := nzs_succ hj
    have hlj := nzs_len (R := R) (j := j) (by omega)
    generalize R[j] = r at hg ht
    have hz : (r != 0) = nz r := rfl
    have y1 : (j + 1) * 1 ≤ 140737488355328 := by omega
    have y2 : j + 1 ≤ 4611686018427387904 := by omega
    simp (config := { maxSteps := 500000 }) only [↓vp, vv, implies_true, forall_const, undef, InI, ↓reduceIte, simprocAttr, c162_2, c162_1, FlwF, FlwH, hj', hjn, Int.toNat_natCast, hg, hz, w1, y1, y2, hlj]
    exact rng_next hj (weak_eq [] [(0, 1000)] (FlwF R (j + 1)) (by simp (config := { maxSteps := 500000 }) only [↓vp, vv, implies_true, forall_const, undef, InI, ↓reduceIte, simprocAttr, coverS, FlwF, FlwH, bRow, w1, ht, List.map_append]) (by simp (config := { maxSteps := 500000 }) only [↓vp, vv, implies_true, forall_const, undef, InI, ↓reduceIte, simprocAttr, refsF, FlwF, FlwH, bRow, w1, ht, List.map_append]) (by simp (config := { maxSteps := 500000 }) only [↓vp, vv, implies_true, forall_const, undef, InI, ↓reduceIte, simprocAttr, FlwF, FlwH, bRow, w1, ht, List.map_append]) (by simp) (by simp (config := { maxSteps := 500000 }) only [↓vp, vv, implies_true, forall_const, undef, InI, ↓reduceIte, simprocAttr, FlwF, FlwH, bRow, w1, ht, List.map_append]; try rfl)) trivial
  · rw [show FlwH R R.length = Hp.none.put (0, 1000) ⟨R.length, 1, (R.map nz).map bRow⟩ by unfold FlwH; rw [nzs_all]]
    have hl : (R.map nz).length = R.length := List.length_map _
    generalize R.map nz = Z at hl
    have tk : (Z.map bRow).take R.length = Z.map bRow := List.take_of_length_le (by simp [hl])
    simp (config := { maxSteps := 500000 }) only [↓vp, vv, implies_true, forall_const, undef, InI, ↓reduceIte, simprocAttr, c162_2, c162_3, r162, FlwF, tk, Int.lt_irrefl, Pu]
    exact ⟨fun b _ d hd => by rw [List.mem_singleton.1 hd]; rfl, by omega⟩
set_option maxHeartbeats 4000000 in
theorem numbers_c (l : Lnp) (h1' : l.segs.length ≤ 1000000) (h2' : l.ports.length ≤ 1000000) (nn : Nm) : CallsA Try.prog 164 [l.enc] Hp.none nn (Pu (.sl ((l.segs ++ l.ports).map bRow)) Hp.none) := by
  obtain ⟨code, h1, h2⟩ := c164_ok
  refine callsA_of (T0_ok _) mixed (N := fun t => (0, t)) Try.func164 h1 h2 r164_ok [] false js_nil js_nil' (by simp [Try.f164]) ?_
  have y1 : l.segs.length * 1 ≤ 140737488355328 := by omega
  have y2 : l.segs.length ≤ 4611686018427387904 := by omega
  have y3 : (l.segs.length + l.ports.length) * 1 ≤ 140737488355328 := by omega
  have y4 : l.segs.length + l.ports.length ≤ 4611686018427387904 := by omega
  have e1 : l.segs.map bRow ++ l.ports.map bRow = (l.segs ++ l.ports).map bRow := (List.map_append ..).symm
  have tk : ((l.segs ++ l.ports).map bRow).take (l.segs.length + l.ports.length) = (l.segs ++ l.ports).map bRow := List.take_of_length_le (by simp)
  simp (config := { maxSteps := 500000 }) only [↓vp, vv, implies_true, forall_const, undef, InI, ↓reduceIte, simprocAttr, c164, r164, r164, Lnp.enc, lnpD, bRow_len, y1, y2, y3, y4, e1, tk, Pu]
  exact ⟨fun x _ d hd => by rw [List.mem_singleton.1 hd]; rfl, fun x _ d hd => by rw [List.mem_singleton.1 hd]; rfl⟩
set_option maxHeartbeats 4000000 in
theorem all_c (l : Lnp) (h1' : l.segs.length ≤ 1000000) (h2' : l.ports.length ≤ 1000000) (nn : Nm) : CallsA Try.prog 170 [l.enc] Hp.none nn (Pu (.sl ((l.segs ++ l.ports).map bRow)) Hp.none) := by
  obtain ⟨code, h1, h2⟩ := c170_ok
  refine callsA_of (T0_ok _) mixed (N := fun t => (0, t)) Try.func170 h1 h2 r170_ok [] false js_nil js_nil' (by simp [Try.f170]) ?_
  have y1 : l.segs.length * 1 ≤ 140737488355328 := by omega
  have y2 : l.segs.length ≤ 4611686018427387904 := by omega
  have y3 : (l.segs.length + l.ports.length) * 1 ≤ 140737488355328 := by omega
  have y4 : l.segs.length + l.ports.length ≤ 4611686018427387904 := by omega
  have e1 : l.segs.map bRow ++ l.ports.map bRow = (l.segs ++ l.ports).map bRow := (List.map_append ..).symm
  have tk : ((l.segs ++ l.ports).map bRow).take (l.segs.length + l.ports.length) = (l.segs ++ l.ports).map bRow := List.take_of_length_le (by simp)
  simp (config := { maxSteps := 500000 }) only [↓vp, vv, implies_true, forall_const, undef, InI, ↓reduceIte, simprocAttr, c170, r170, r170, Lnp.enc, lnpD, bRow_len, y1, y2, y3, y4, e1, tk, Pu]
  exact ⟨fun x _ d hd => by rw [List.mem_singleton.1 hd]; rfl, fun x _ d hd => by rw [List.mem_singleton.1 hd]; rfl⟩
def selFlw : List D → Option (Prop × D)
  | [.sl rows] => match intsOf rows with
    | some R => some (R.length ≤ 1000000, .sl ((R.map nz).map bRow))
    | Option.none => Option.none
  | _ => Option.none
theorem tc_flw {T : Tbl} (hT : TblOk Try.prog T) : TblOk Try.prog (tc 162 (rowPu selFlw) T) :=
  tc_pu f162_ok (fun args pre d h hp nn => by
    unfold selFlw at h
    split at h
    · split at h
      · rename_i e
        cases h
        rw [intsOf_eq e]
        exact flows_c _ hp nn
      · cases h
    · cases h) hT
def needL (p : Pln) : Lnp := ⟨p.rates.map nz, p.ports.map nz⟩
def needR (n : Net) (p : Pln) : Lnp := if fckI n p = 0 then needL p else ⟨[], []⟩
def TLu0 : Tbl := tc 74 (rowPu (selNet fun n => di (checkI n))) (tc 55 (rowPu (selNP FckPre fun n p => di (fckI n p))) (tc 162 (rowPu selFlw) T0))
theorem TLu0_ok : TblOk Try.prog TLu0 := tc_netf f74_ok check_c (tc_np f55_ok (fun n p h nn => fcheck_c n p h.1 h.2 nn) (tc_flw (T0_ok _)))
theorem fck_chk {n : Net} {p : Pln} (h : ¬ checkI n = 0) : fckI n p = checkI n := by unfold fckI; rw [if_neg h]
set_option maxHeartbeats 4000000 in
theorem need_c (n : Net) (p : Pln) (hz : FckPre n p) (nn : Nm) : CallsA Try.prog 102 [n.enc, p.enc] Hp.none nn (Pu (.tup [(needR n p).enc, di (fckI n p)]) Hp.none) := by
  obtain ⟨code, h1, h2⟩ := c102_ok
  refine callsA_of TLu0_ok mixed (N := fun t => (0, t)) Try.func102 h1 h2 r102_ok [] false js_nil js_nil' (by simp [Try.f102]) ?_
  have hn1 : netOf1 [D.sl (n.nodes.map nmRow), .sl (n.segs.map Seg.row), .sl (n.ports.map Port.row), .sl (n.sts.map Stn.row), di n.vap, di n.set] = some n := netOf1_row n
  have hp1 : plnOf1 [D.sl (p.rates.map iRow), .sl (p.ports.map iRow), .sl (p.pumps.map bRow)] = some p := plnOf1_row p
  have i1 : ∀ R : List Int, intsOf (R.map iRow) = some R := intsOf_map
  have hz1 := hz.1
  have hz2 := hz.2.rates
  have hz3 := hz.2.ports
  by_cases a1 : checkI n = 0
  · by_cases a2 : fckI n p = 0
    · have hr : needR n p = needL p := if_pos a2
      simp (config := { maxSteps := 500000 }) only [↓vp, vv, implies_true, forall_const, undef, InI, ↓reduceIte, simprocAttr, c102, r102, c102_1, c102_2, r102, TLu0, selNet, selNP, selFlw, Net.enc, Pln.enc, plnD, Lnp.enc, lnpD, needL, hr, hn1, hp1, i1, hz, hz1, hz2, hz3, a1, a2, bne_self_eq_false, Pu]
    · have hr : needR n p = ⟨[], []⟩ := if_neg a2
      have a3 : (fckI n p != 0) = true := by simp [a2]
      simp (config := { maxSteps := 500000 }) only [↓vp, vv, implies_true, forall_const, undef, InI, ↓reduceIte, simprocAttr, c102, r102, c102_1, c102_2, r102, TLu0, selNet, selNP, selFlw, Net.enc, Pln.enc, plnD, Lnp.enc, lnpD, hr, hn1, hp1, hz, hz1, a1, a3, bne_self_eq_false, Pu]
  · have hf := fck_chk (p := p) a1
    have a2 : ¬ fckI n p = 0 := by rw [hf]; exact a1
    have hr : needR n p = ⟨[], []⟩ := if_neg a2
    have a3 : (checkI n != 0) = true := by simp [a1]
    simp (config := { maxSteps := 500000 }) only [↓vp, vv, implies_true, forall_const, undef, InI, ↓reduceIte, simprocAttr, c102, r102, c102_1, c102_2, r102, TLu0, selNet, selNP, selFlw, Net.enc, Pln.enc, plnD, Lnp.enc, lnpD, hr, hf, hn1, hp1, hz1, a3, Pu]
/-- Whether nothing of the first list is missing in the second one. -/
def permB (a b : List Bool) : Bool := (a.zip b).all fun x => if x.1 = true then x.2 else true
def selNLP (ok : Net → Lnp → Pln → Prop) (out : Net → Lnp → Pln → D) : List D → Option (Prop × D)
  | [.agg a, .agg b, .agg c] => match netOf1 a, lnpOf1 b, plnOf1 c with
    | some n, some l, some p => some (ok n l p, out n l p)
    | _, _, _ => Option.none
  | _ => Option.none
theorem tc_nlp {f : FuncId} {T : Tbl} {ok : Net → Lnp → Pln → Prop} {out : Net → Lnp → Pln → D} (hf : fnOk Try.prog f = true) (h : ∀ n l p, ok n l p → ∀ nn, CallsA Try.prog f [n.enc, l.enc, p.enc] Hp.none nn (Pu (out n l p) Hp.none)) (hT : TblOk Try.prog T) : TblOk Try.prog (tc f (rowPu (selNLP ok out)) T) :=
  tc_pu hf (fun args pre d hs hp nn => by
    unfold selNLP at hs
    split at hs
    · split at hs
      · rename_i e1 e2 e3
        cases hs
        rw [netOf1_eq e1, lnpOf1_eq e2, plnOf1_eq e3]
        exact h _ _ _ hp nn
      · cases hs
    · cases hs) hT
def LnpSz (l : Lnp) : Prop := l.segs.length ≤ 1000000 ∧ l.ports.length ≤ 1000000
def lall (l : Lnp) : List Bool := l.segs ++ l.ports
def prmI (n : Net) (l : Lnp) (p : Pln) : Bool × Int := if checkI n = 0 then (if lvB n l = true then (if fckI n p = 0 then (permB (lall (needL p)) (lall l), 0) else (false, fckI n p)) else (false, 9)) else (false, checkI n)
def TLu1 : Tbl := tc 74 (rowPu (selNet fun n => di (checkI n))) (tc 102 (rowPu (selNP FckPre fun n p => .tup [(needR n p).enc, di (fckI n p)])) (tc 108 (rowPu (selNL (fun _ _ => True) fun n l => db (lvB n l))) (tc 164 (rowPu (selL LnpSz fun l => .sl ((lall l).map bRow))) T0)))
theorem TLu1_ok : TblOk Try.prog TLu1 := tc_netf f74_ok check_c (tc_np f102_ok (fun n p h nn => need_c n p h nn) (tc_nl f108_ok (fun n l _ nn => lvalid_c n l nn) (tc_l f164_ok (fun l h nn => numbers_c l h.1 h.2 nn) (T0_ok _))))
theorem lv_len {n : Net} {l : Lnp} (h : lvB n l = true) : l.segs.length = n.segs.length ∧ l.ports.length = n.ports.length := by
  unfold lvB at h
  split at h
  · rename_i a
    have a := beq_iff_eq.1 a
    have b := beq_iff_eq.1 h
    omega
  · cases h
theorem fck_len {n : Net} {p : Pln} (h : fckI n p = 0) : p.rates.length = n.segs.length ∧ p.ports.length = n.ports.length ∧ p.pumps.length = n.sts.length := by
  unfold fckI at h
  split at h
  · rename_i a
    cases hl : lenBad n p with
    | false => exact len_ok hl
    | true => rw [hl] at h; simp at h
  · contradiction
def PmF (A B : List Bool) (j : Int) : List (Nat × D) := [(11, .sl (B.map bRow)), (35, .sl (A.map bRow)), (36, di A.length), (37, di j)]
set_option maxHeartbeats 8000000 in
theorem permits_c (n : Net) (l : Lnp) (p : Pln) (hz : FckPre n p) (hl : LnpSz l) (nn : Nm) : CallsA Try.prog 110 [n.enc, l.enc, p.enc] Hp.none nn (Pu (.tup [db (prmI n l p).1, di (prmI n l p).2]) Hp.none) := by
  obtain ⟨code, h1, h2⟩ := c110_ok
  refine callsA_of TLu1_ok mixed (N := fun t => (0, t)) Try.func110 h1 h2 r110_ok [] false js_nil js_nil' (by simp [Try.f110]) ?_
  have hn1 : netOf1 [D.sl (n.nodes.map nmRow), .sl (n.segs.map Seg.row), .sl (n.ports.map Port.row), .sl (n.sts.map Stn.row), di n.vap, di n.set] = some n := netOf1_row n
  have hp1 : plnOf1 [D.sl (p.rates.map iRow), .sl (p.ports.map iRow), .sl (p.pumps.map bRow)] = some p := plnOf1_row p
  have hl1 : ∀ l : Lnp, lnpOf1 [D.sl (l.segs.map bRow), .sl (l.ports.map bRow)] = some l := lnpOf1_row
  have hz1 := hz.1
  by_cases a1 : checkI n = 0
  · cases a2 : lvB n l with
    | false =>
      have hr : prmI n l p = (false, 9) := by unfold prmI; rw [if_pos a1, a2]; rfl
      simp (config := { maxSteps := 500000 }) only [↓vp, vv, implies_true, forall_const, undef, InI, ↓reduceIte, simprocAttr, c110, r110, c110_1, c110_2, c110_3, c110_4, c110_5, c110_6, c110_7, r110, TLu1, selNet, selNP, selNL, Net.enc, Pln.enc, plnD, Lnp.enc, lnpD, hr, hn1, hp1, hl1, hz, hz1, a1, a2, bne_self_eq_false, Pu]
    | true =>
      by_cases a3 : fckI n p = 0
      · have hr : prmI n l p = (permB (lall (needL p)) (lall l), 0) := by unfold prmI; rw [if_pos a1, a2, if_pos rfl, if_pos a3]
        have hnr : needR n p = needL p := if_pos a3
        have hll := lv_len a2
        have hpl := fck_len a3
        have hns : LnpSz (needL p) := ⟨by have := hz.2.rates; simp [needL]; exact this, by have := hz.2.ports; simp [needL]; exact this⟩
        have hAB : (lall (needL p)).length = (lall l).length := by simp [lall, needL]; omega
        have hAz : (lall l).length ≤ 2000000 := by have a := hl.1; have b := hl.2; simp [lall]; omega
        simp (config := { maxSteps := 500000 }) only [↓vp, vv, implies_true, forall_const, undef, InI, ↓reduceIte, simprocAttr, c110, c110_7, c110_6, c110_5, TLu1, selNet, selNP, selNL, selL, Net.enc, Pln.enc, plnD, Lnp.enc, lnpD, hr, hnr, hn1, hp1, hl1, hz, hz1, hl, hns, a1, a2, a3, bne_self_eq_false]
        generalize lall (needL p) = A at hAB
        generalize lall l = B at hAB hAz
        have hZl : (A.zip B).length = A.length := by rw [List.length_zip]; omega
        generalize hb : permB A B = b
        unfold permB at hb
        refine rng_loop A.length (fun j => ⟨fr (PmF A B j), Hp.none⟩) (fun j => ((A.zip B).drop j).all (fun x => if x.1 = true then x.2 else true) = b) (weak_eq [] [] (PmF A B 0) (by simp (config := { maxSteps := 500000 }) only [↓vp, vv, implies_true, forall_const, undef, InI, ↓reduceIte, simprocAttr, coverS, PmF]) (by simp (config := { maxSteps := 500000 }) only [↓vp, vv, implies_true, forall_const, undef, InI, ↓reduceIte, simprocAttr, refsF, PmF]) (by simp (config := { maxSteps := 500000 }) only [↓vp, vv, implies_true, forall_const, undef, InI, ↓reduceIte, simprocAttr, PmF]) (by simp) (by simp (config := { maxSteps := 500000 }) only [↓vp, vv, implies_true, forall_const, undef, InI, ↓reduceIte, simprocAttr, PmF]; try rfl)) hb (fun j hj he => ?_) (fun he => ?_)
        · have hj' : (j : Int) < A.length := by omega
          have hjB : (j : Int) < B.length := by omega
          have hjn := idx_nn j
          have w1 := idx_next (j := j) (by omega)
          have hjb : j < B.length := by omega
          have hjz : j < (A.zip B).length := by omega
          obtain ⟨gf, gt⟩ := drop_all hjz he
          have hzz : (A.zip B)[j] = (A[j], B[j]) := List.getElem_zip
          rw [hzz] at gf gt
          have hgA := bRow_g A j hj
          have hgB := bRow_g B j hjb
          generalize A[j] = x at gf gt hgA
          generalize B[j] = y at gf gt hgB
          cases x with
          | false =>
            simp (config := { maxSteps := 500000 }) only [↓vp, vv, implies_true, forall_const, undef, InI, ↓reduceIte, simprocAttr, c110_3, c110_2, c110_1, PmF, hj', hjB, hjn, Int.toNat_natCast, hgA, hgB, w1]
            exact rng_next hj (weak_eq [] [] (PmF A B (j + 1 : Nat)) (by simp (config := { maxSteps := 500000 }) only [↓vp, vv, implies_true, forall_const, undef, InI, ↓reduceIte, simprocAttr, coverS, PmF, w1]) (by simp (config := { maxSteps := 500000 }) only [↓vp, vv, implies_true, forall_const, undef, InI, ↓reduceIte, simprocAttr, refsF, PmF, w1]) (by simp (config := { maxSteps := 500000 }) only [↓vp, vv, implies_true, forall_const, undef, InI, ↓reduceIte, simprocAttr, PmF, w1]) (by simp) (by simp (config := { maxSteps := 500000 }) only [↓vp, vv, implies_true, forall_const, undef, InI, ↓reduceIte, simprocAttr, PmF, w1]; try rfl)) (gt rfl)
          | true =>
            cases y with
            | true =>
              simp (config := { maxSteps := 500000 }) only [↓vp, vv, implies_true, forall_const, undef, InI, ↓reduceIte, simprocAttr, c110_3, c110_2, c110_1, PmF, hj', hjB, hjn, Int.toNat_natCast, hgA, hgB, w1]
              exact rng_next hj (weak_eq [] [] (PmF A B (j + 1 : Nat)) (by simp (config := { maxSteps := 500000 }) only [↓vp, vv, implies_true, forall_const, undef, InI, ↓reduceIte, simprocAttr, coverS, PmF, w1]) (by simp (config := { maxSteps := 500000 }) only [↓vp, vv, implies_true, forall_const, undef, InI, ↓reduceIte, simprocAttr, refsF, PmF, w1]) (by simp (config := { maxSteps := 500000 }) only [↓vp, vv, implies_true, forall_const, undef, InI, ↓reduceIte, simprocAttr, PmF, w1]) (by simp) (by simp (config := { maxSteps := 500000 }) only [↓vp, vv, implies_true, forall_const, undef, InI, ↓reduceIte, simprocAttr, PmF, w1]; try rfl)) (gt rfl)
            | false =>
              have e0 := gf rfl
              simp (config := { maxSteps := 500000 }) only [↓vp, vv, implies_true, forall_const, undef, InI, ↓reduceIte, simprocAttr, c110_3, c110_2, c110_1, r110, PmF, hj', hjB, hjn, Int.toNat_natCast, hgA, hgB, w1, e0, Pu]
        · rw [List.drop_of_length_le (by omega)] at he
          have e0 : b = true := he.symm
          simp (config := { maxSteps := 500000 }) only [↓vp, vv, implies_true, forall_const, undef, InI, ↓reduceIte, simprocAttr, c110_3, c110_4, r110, PmF, Int.lt_irrefl, e0, Pu]
      · have a3' : (fckI n p != 0) = true := by simp [a3]
        have hnr : needR n p = ⟨[], []⟩ := if_neg a3
        have hr : prmI n l p = (false, fckI n p) := by unfold prmI; rw [if_pos a1, a2, if_pos rfl, if_neg a3]
        simp (config := { maxSteps := 500000 }) only [↓vp, vv, implies_true, forall_const, undef, InI, ↓reduceIte, simprocAttr, c110, r110, c110_1, c110_2, c110_3, c110_4, c110_5, c110_6, c110_7, r110, TLu1, selNet, selNP, selNL, Net.enc, Pln.enc, plnD, Lnp.enc, lnpD, hr, hnr, hn1, hp1, hl1, hz, hz1, a1, a2, a3', bne_self_eq_false, Pu]
  · have a1' : (checkI n != 0) = true := by simp [a1]
    have hr : prmI n l p = (false, checkI n) := by unfold prmI; rw [if_neg a1]
    simp (config := { maxSteps := 500000 }) only [↓vp, vv, implies_true, forall_const, undef, InI, ↓reduceIte, simprocAttr, c110, r110, c110_1, c110_2, c110_3, c110_4, c110_5, c110_6, c110_7, r110, TLu1, selNet, Net.enc, Pln.enc, plnD, Lnp.enc, lnpD, hr, hn1, hz1, a1', Pu]
end Go.Proofs.Ytkjibmfggeibjaa
/- Lineups: both, Changes, All; lists out of a source. -/
namespace Go.Proofs.Ytkjibmfggeibjaa
open Go
set_option linter.unusedVariables false
set_option linter.unusedSimpArgs false
set_option maxRecDepth 100000

def bothI (n : Net) (ls : List Lnp) : Int := if checkI n = 0 then (if ls.all (lvB n) = true then 0 else 9) else checkI n
def TLu2 : Tbl := tc 74 (rowPu (selNet fun n => di (checkI n))) (tc 108 (rowPu (selNL (fun _ _ => True) fun n l => db (lvB n l))) T0)
theorem TLu2_ok : TblOk Try.prog TLu2 := tc_netf f74_ok check_c (tc_nl f108_ok (fun n l _ nn => lvalid_c n l nn) (T0_ok _))
def BoF (ls : List Lnp) (j : Int) : List (Nat × D) := [(2, .ptr (0, 2) 0 0 0), (13, .sl (ls.map lnpD)), (14, di ls.length), (15, di j)]
def BoH (n : Net) : Hp := Hp.none.put (0, 2) ⟨0, 6, [netD n]⟩
set_option maxHeartbeats 8000000 in
theorem both_c (n : Net) (hz : NetSz n) (ls : List Lnp) (hl : ls.length ≤ 1000000) (nn : Nm) : CallsA Try.prog 163 [n.enc, .sl (ls.map lnpD)] Hp.none nn (Pu (di (bothI n ls)) Hp.none) := by
  obtain ⟨code, h1, h2⟩ := c163_ok
  refine callsA_of TLu2_ok mixed (N := fun t => (0, t)) Try.func163 h1 h2 r163_ok [] false js_nil js_nil' (by simp [Try.f163]) ?_
  have hn1 : netOf1 [D.sl (n.nodes.map nmRow), .sl (n.segs.map Seg.row), .sl (n.ports.map Port.row), .sl (n.sts.map Stn.row), di n.vap, di n.set] = some n := netOf1_row n
  have hl1 : ∀ l : Lnp, lnpOf1 [D.sl (l.segs.map bRow), .sl (l.ports.map bRow)] = some l := lnpOf1_row
  by_cases a1 : checkI n = 0
  · generalize hb : ls.all (lvB n) = b
    have hr : bothI n ls = if b = true then 0 else 9 := by unfold bothI; rw [if_pos a1, hb]
    simp (config := { maxSteps := 500000 }) only [↓vp, vv, implies_true, forall_const, undef, InI, ↓reduceIte, simprocAttr, c163, c163_5, TLu2, selNet, Net.enc, hn1, hz, a1, bne_self_eq_false]
    refine rng_loop ls.length (fun j => ⟨fr (BoF ls j), BoH n⟩) (fun j => (ls.drop j).all (lvB n) = b) (weak_eq [] [(0, 2)] (BoF ls 0) (by simp (config := { maxSteps := 500000 }) only [↓vp, vv, implies_true, forall_const, undef, InI, ↓reduceIte, simprocAttr, coverS, BoF, BoH, netD]) (by simp (config := { maxSteps := 500000 }) only [↓vp, vv, implies_true, forall_const, undef, InI, ↓reduceIte, simprocAttr, refsF, BoF, BoH, netD]) (by simp (config := { maxSteps := 500000 }) only [↓vp, vv, implies_true, forall_const, undef, InI, ↓reduceIte, simprocAttr, BoF, BoH, netD]) (by simp) (by simp (config := { maxSteps := 500000 }) only [↓vp, vv, implies_true, forall_const, undef, InI, ↓reduceIte, simprocAttr, BoF, BoH, netD]; try rfl)) hb (fun j hj he => ?_) (fun he => ?_)
    · have hj' : (j : Int) < ls.length := by omega
      have hjn := idx_nn j
      have w1 := idx_next (j := j) (by omega)
      obtain ⟨gf, gt⟩ := drop_all hj he
      have hg := getD_map lnpD ls j hj
      generalize ls[j] = x at gf gt hg
      cases hx : lvB n x with
      | false =>
        have hr2 : bothI n ls = 9 := by rw [hr, gf hx]; rfl
        simp (config := { maxSteps := 500000 }) only [↓vp, vv, implies_true, forall_const, undef, InI, ↓reduceIte, simprocAttr, c163_3, c163_2, c163_1, r163, TLu2, selNL, BoF, BoH, netD, hj', hjn, Int.toNat_natCast, hg, lnpD, hn1, hl1, hx, hr2, Pu]
      | true =>
        simp (config := { maxSteps := 500000 }) only [↓vp, vv, implies_true, forall_const, undef, InI, ↓reduceIte, simprocAttr, c163_3, c163_2, c163_1, TLu2, selNL, BoF, BoH, netD, hj', hjn, Int.toNat_natCast, hg, lnpD, hn1, hl1, hx, w1]
        exact rng_next hj (weak_eq [] [(0, 2)] (BoF ls (j + 1 : Nat)) (by simp (config := { maxSteps := 500000 }) only [↓vp, vv, implies_true, forall_const, undef, InI, ↓reduceIte, simprocAttr, coverS, BoF, BoH, netD, w1]) (by simp (config := { maxSteps := 500000 }) only [↓vp, vv, implies_true, forall_const, undef, InI, ↓reduceIte, simprocAttr, refsF, BoF, BoH, netD, w1]) (by simp (config := { maxSteps := 500000 }) only [↓vp, vv, implies_true, forall_const, undef, InI, ↓reduceIte, simprocAttr, BoF, BoH, netD, w1]) (by simp) (by simp (config := { maxSteps := 500000 }) only [↓vp, vv, implies_true, forall_const, undef, InI, ↓reduceIte, simprocAttr, BoF, BoH, netD, w1]; try rfl)) (gt hx)
    · have e0 : b = true := drop_all_end he
      have hr2 : bothI n ls = 0 := by rw [hr, e0]; rfl
      simp (config := { maxSteps := 500000 }) only [↓vp, vv, implies_true, forall_const, undef, InI, ↓reduceIte, simprocAttr, c163, r163, c163_1, c163_2, c163_3, c163_4, c163_5, r163, BoF, BoH, Int.lt_irrefl, hr2, Pu]
  · have a1' : (checkI n != 0) = true := by simp [a1]
    have hr : bothI n ls = checkI n := by unfold bothI; rw [if_neg a1]
    simp (config := { maxSteps := 500000 }) only [↓vp, vv, implies_true, forall_const, undef, InI, ↓reduceIte, simprocAttr, c163, r163, TLu2, selNet, Net.enc, hn1, hz, a1', hr, Pu]
def selBoth : List D → Option (Prop × D)
  | [.agg a, .sl rows] => match netOf1 a, lsOf lnpOf1 rows with
    | some n, some ls => some (NetSz n ∧ ls.length ≤ 1000000, di (bothI n ls))
    | _, _ => Option.none
  | _ => Option.none
theorem tc_both {T : Tbl} (hT : TblOk Try.prog T) : TblOk Try.prog (tc 163 (rowPu selBoth) T) :=
  tc_pu f163_ok (fun args pre d h hp nn => by
    unfold selBoth at h
    split at h
    · split at h
      · rename_i e1 e2
        cases h
        rw [netOf1_eq e1, lsOf_eq (fun r x => lnpOf1_eq) e2]
        exact both_c _ hp.1 _ hp.2 nn
      · cases h
    · cases h) hT
def TLu3 : Tbl := tc 163 (rowPu selBoth) (tc 164 (rowPu (selL LnpSz fun l => .sl ((lall l).map bRow))) T0)
theorem TLu3_ok : TblOk Try.prog TLu3 := tc_both (tc_l f164_ok (fun l h nn => numbers_c l h.1 h.2 nn) (T0_ok _))
theorem js_nil0 {J : List Nm} : ∀ (j : Nm) (x : En), Hp.none j = some x → j ∈ J := fun j x h => by cases h
theorem js_nms (a b : Nat) {Hs : Hp} : ∀ j ∈ [(a, b), (a, b + 5000)], (Hs j).isSome = true ∨ j ∈ nms (a, b) := fun j h => .inr (by
  simp only [List.mem_cons, List.not_mem_nil, or_false] at h
  rcases h with rfl | rfl <;> simp [nms])
/-- Where the second list has what the first one has not. -/
def dif (A B : List Bool) (j : Nat) : List Nat := (List.range j).filter fun i => B.getD i false && !(A.getD i false)
theorem dif_succ (A B : List Bool) (j : Nat) : dif A B (j + 1) = if (B.getD j false && !(A.getD j false)) = true then dif A B j ++ [j] else dif A B j := by
  unfold dif
  rw [List.range_succ, List.filter_append, List.filter_cons, List.filter_nil]
  split
  · rfl
  · exact List.append_nil _
theorem dif_le (A B : List Bool) (j : Nat) : (dif A B j).length ≤ j := by
  unfold dif
  exact Nat.le_trans (List.length_filter_le ..) (by simp)
def ChF (a b : Nat) (A B : List Bool) (j : Nat) : List (Nat × D) := [(6, .own (a, b) (dif A B j).length 0 (dif A B j).length), (7, .own (a, b + 5000) (dif B A j).length 0 (dif B A j).length), (10, .sl (B.map bRow)), (24, .sl (A.map bRow)), (25, di A.length), (26, di j)]
def ChH (a b : Nat) (A B : List Bool) (j : Nat) : Hp := (Hp.none.put (a, b + 5000) ⟨(dif B A j).length, 1, (dif B A j).map nRow⟩).put (a, b) ⟨(dif A B j).length, 1, (dif A B j).map nRow⟩
set_option maxHeartbeats 16000000 in
theorem changes_o (n : Net) (hz : NetSz n) (x y : Lnp) (hc : checkI n = 0) (hx : lvB n x = true) (hy : lvB n y = true) (nn : Nm) : CallsA Try.prog 103 [n.enc, x.enc, y.enc] Hp.none nn
    (Pu (.tup [.own nn (dif (lall x) (lall y) (lall x).length).length 0 (dif (lall x) (lall y) (lall x).length).length, .own (nn.1, nn.2 + 5000) (dif (lall y) (lall x) (lall x).length).length 0 (dif (lall y) (lall x) (lall x).length).length, di 0]) (ChH nn.1 nn.2 (lall x) (lall y) (lall x).length)) := by
  obtain ⟨a, b⟩ := nn
  obtain ⟨code, h1, h2⟩ := c103_ok
  refine callsA_ofM TLu3_ok mixed (N := fun t => (a + 1, t)) Try.func103 h1 h2 r103_ok [(a, b), (a, b + 5000)] true js_nil0 (js_nms a b) (by simp [Try.f103]) ?_
  have hn1 : netOf1 [D.sl (n.nodes.map nmRow), .sl (n.segs.map Seg.row), .sl (n.ports.map Port.row), .sl (n.sts.map Stn.row), di n.vap, di n.set] = some n := netOf1_row n
  have hl1 : ∀ l : Lnp, lnpOf1 [D.sl (l.segs.map bRow), .sl (l.ports.map bRow)] = some l := lnpOf1_row
  have hl2 : lsOf lnpOf1 [[D.sl (x.segs.map bRow), .sl (x.ports.map bRow)], [D.sl (y.segs.map bRow), .sl (y.ports.map bRow)]] = some [x, y] := lsOf_map lnpOf1_row [x, y]
  have hb : bothI n [x, y] = 0 := by unfold bothI; rw [if_pos hc]; simp [hx, hy]
  have lx := lv_len hx
  have ly := lv_len hy
  have zs := hz.segs
  have zp := hz.ports
  have hlx : LnpSz x := ⟨by omega, by omega⟩
  have hly : LnpSz y := ⟨by omega, by omega⟩
  have hAB : (lall x).length = (lall y).length := by simp [lall]; omega
  have hAz : (lall x).length ≤ 2000000 := by simp [lall]; omega
  have q1 : (a + 1 = a) = False := by simp
  have q2 : (a = a + 1) = False := by simp
  have q3 : (b + 5000 = b) = False := by simp
  have q4 : (b = b + 5000) = False := by simp
  simp (config := { maxSteps := 500000 }) only [↓vp, vv, implies_true, forall_const, undef, InI, ↓reduceIte, simprocAttr, c103, c103_5, TLu3, selBoth, selL, Net.enc, Lnp.enc, lnpD, hn1, hl1, hl2, hb, hz, hlx, hly, q1, q2, q3, q4, bne_self_eq_false]
  generalize lall x = A at hAB hAz
  generalize lall y = B at hAB
  refine rng_loop A.length (fun j => ⟨fr (ChF a b A B j), ChH a b A B j⟩) (fun _ => True) ((weak_own 6 (a, b) 1 (by simp (config := { maxSteps := 500000 }) only [↓vp, vv, implies_true, forall_const, undef, InI, ↓reduceIte, simprocAttr, ]) (by simp (config := { maxSteps := 500000 }) only [↓vp, vv, implies_true, forall_const, undef, InI, ↓reduceIte, simprocAttr, q1, q2, q3, q4])).trans ((weak_own 7 (a, b + 5000) 1 (by simp (config := { maxSteps := 500000 }) only [↓vp, vv, implies_true, forall_const, undef, InI, ↓reduceIte, simprocAttr, ]) (by simp (config := { maxSteps := 500000 }) only [↓vp, vv, implies_true, forall_const, undef, InI, ↓reduceIte, simprocAttr, q1, q2, q3, q4])).trans (weak_eq [] [(a, b), (a, b + 5000)] (ChF a b A B 0) (by simp (config := { maxSteps := 500000 }) only [↓vp, vv, implies_true, forall_const, undef, InI, ↓reduceIte, simprocAttr, coverS, ChF, ChH, q1, q2, q3, q4, dif, nRow, List.range_zero, List.filter_nil]) (by simp (config := { maxSteps := 500000 }) only [↓vp, vv, implies_true, forall_const, undef, InI, ↓reduceIte, simprocAttr, refsF, ChF, ChH, q1, q2, q3, q4, dif, nRow, List.range_zero, List.filter_nil]) (by simp (config := { maxSteps := 500000 }) only [↓vp, vv, implies_true, forall_const, undef, InI, ↓reduceIte, simprocAttr, ChF, ChH, q1, q2, q3, q4, dif, nRow, List.range_zero, List.filter_nil]) (by simp) (by simp (config := { maxSteps := 500000 }) only [↓vp, vv, implies_true, forall_const, undef, InI, ↓reduceIte, simprocAttr, ChF, ChH, q1, q2, q3, q4, dif, nRow, List.range_zero, List.filter_nil]; try rfl)))) trivial (fun j hj _ => ?_) (fun _ => ?_)
  · have hj' : (j : Int) < A.length := by omega
    have hjB : (j : Int) < B.length := by omega
    have hjn := idx_nn j
    have w1 := idx_next (j := j) (by omega)
    have hjb : j < B.length := by omega
    have hgA := bRow_g A j hj
    have hgB := bRow_g B j hjb
    have d1 := dif_succ A B j
    have d2 := dif_succ B A j
    have l1 := dif_le A B j
    have l2 := dif_le B A j
    have eA : A.getD j false = A[j] := by rw [List.getD_eq_getElem?_getD, List.getElem?_eq_getElem hj]; rfl
    have eB : B.getD j false = B[j] := by rw [List.getD_eq_getElem?_getD, List.getElem?_eq_getElem hjb]; rfl
    rw [eA, eB] at d1 d2
    generalize A[j] = u at hgA d1 d2
    generalize B[j] = v at hgB d1 d2
    have y1 : ((dif A B j).length + 1) * 8 ≤ 140737488355328 := by omega
    have y2 : (dif A B j).length + 1 ≤ 4611686018427387904 := by omega
    have y3 : ((dif B A j).length + 1) * 8 ≤ 140737488355328 := by omega
    have y4 : (dif B A j).length + 1 ≤ 4611686018427387904 := by omega
    cases u <;> cases v <;> simp only [Bool.not_true, Bool.not_false, Bool.and_self, Bool.and_true, Bool.and_false, Bool.false_and, Bool.true_and, if_true, if_false, Bool.false_eq_true] at d1 d2 <;> (simp (config := { maxSteps := 500000 }) only [↓vp, vv, implies_true, forall_const, undef, InI, ↓reduceIte, simprocAttr, c103_3, c103_2, c103_1, ChF, ChH, hj', hjB, hjn, Int.toNat_natCast, hgA, hgB, w1, y1, y2, y3, y4, q1, q2, q3, q4, nRow]; exact rng_next hj (weak_eq [] [(a, b), (a, b + 5000)] (ChF a b A B (j + 1)) (by simp (config := { maxSteps := 500000 }) only [↓vp, vv, implies_true, forall_const, undef, InI, ↓reduceIte, simprocAttr, coverS, ChF, ChH, q1, q2, q3, q4, nRow, w1, d1, d2, List.map_append, List.length_append, List.length_cons, List.length_nil]) (by simp (config := { maxSteps := 500000 }) only [↓vp, vv, implies_true, forall_const, undef, InI, ↓reduceIte, simprocAttr, refsF, ChF, ChH, q1, q2, q3, q4, nRow, w1, d1, d2, List.map_append, List.length_append, List.length_cons, List.length_nil]) (by simp (config := { maxSteps := 500000 }) only [↓vp, vv, implies_true, forall_const, undef, InI, ↓reduceIte, simprocAttr, ChF, ChH, q1, q2, q3, q4, nRow, w1, d1, d2, List.map_append, List.length_append, List.length_cons, List.length_nil]) (by simp) (by simp (config := { maxSteps := 500000 }) only [↓vp, vv, implies_true, forall_const, undef, InI, ↓reduceIte, simprocAttr, ChF, ChH, q1, q2, q3, q4, nRow, w1, d1, d2, List.map_append, List.length_append, List.length_cons, List.length_nil]; try rfl)) trivial)
  · simp (config := { maxSteps := 500000 }) only [↓vp, vv, implies_true, forall_const, undef, InI, ↓reduceIte, simprocAttr, c103_3, c103_4, r103, ChF, ChH, Int.lt_irrefl, q1, q2, q3, q4, nRow, Pu]
/-- What a function yields that reads from a source and makes two lists of truth values. -/
def RawR (i nn : Nm) (L : List (List D)) (p q : Nat) : D → Hp → Prop := fun v H' => ∃ (at' : Int) (x y : List Bool), SrcOk L at' ∧ (x.length = p ∧ y.length = q) ∧ v = .agg [.own nn p 0 p, .own (nn.1, nn.2 + 5000) q 0 q] ∧ H' = ((Hp.none.put (nn.1, nn.2 + 5000) ⟨q, 1, y.map bRow⟩).put nn ⟨p, 1, x.map bRow⟩).put i (sE L at')
theorem RawR_all (i nn : Nm) (L : List (List D)) (p q : Nat) (K : D → Hp → Prop) : (∀ v H', RawR i nn L p q v H' → K v H') = ∀ (at' : SA L) (x y : List Bool), x.length = p ∧ y.length = q → K (.agg [.own nn p 0 p, .own (nn.1, nn.2 + 5000) q 0 q]) (((Hp.none.put (nn.1, nn.2 + 5000) ⟨q, 1, y.map bRow⟩).put nn ⟨p, 1, x.map bRow⟩).put i (sE L at'.1)) :=
  propext ⟨fun h at' x y h2 => h _ _ ⟨at'.1, x, y, at'.2, h2, rfl, rfl⟩, fun h v H' ⟨at', x, y, h1, h2, e1, e2⟩ => by rw [e1, e2]; exact h ⟨at', h1⟩ x y h2⟩
def RwF (c d : Nat) (l : List (Nat × D)) : List (Nat × D) := (0, .ptr (c, d) 0 0 0) :: (3, .ptr (c + 1, 3) 0 0 0) :: (4, .ptr (c + 1, 4) 0 0 0) :: (5, .ptr (c + 1, 5) 0 0 0) :: l
def RwH (n : Net) (c d a b : Nat) (L : List (List D)) (at' : Int) (x y : List Bool) : Hp := (((((Hp.none.put (a, b + 5000) ⟨y.length, 1, y.map bRow⟩).put (a, b) ⟨x.length, 1, x.map bRow⟩).put (c + 1, 5) ⟨0, 2, [[.own (a, b) x.length 0 x.length, .own (a, b + 5000) y.length 0 y.length]]⟩).put (c + 1, 4) ⟨0, 2, [[.mt, .mt]]⟩).put (c + 1, 3) ⟨0, 6, [netD n]⟩).put (c, d) (sE L at')
theorem js_raw (c d a b : Nat) (e : En) : ∀ (j : Nm) (x : En), (Hp.none.put (c, d) e) j = some x → j ∈ [(c, d), (a, b), (a, b + 5000)] := fun j x h => by
  by_cases hj : j = (c, d)
  · rw [hj]; exact List.mem_cons_self ..
  · rw [Hp.put_other _ hj] at h; cases h
theorem js_raw' (c d a b : Nat) (e : En) : ∀ j ∈ [(c, d), (a, b), (a, b + 5000)], ((Hp.none.put (c, d) e) j).isSome = true ∨ j ∈ nms (a, b) := fun j h => by
  rcases List.mem_cons.1 h with h | h
  · rw [h, Hp.put_same]; exact .inl rfl
  · right
    simp only [List.mem_cons, List.not_mem_nil, or_false] at h
    rcases h with rfl | rfl <;> simp [nms]
set_option maxHeartbeats 16000000 in
theorem raw_o (n : Net) (hz : NetSz n) (i : Nm) (L : List (List D)) (at' : Int) (nn : Nm) (ho : SrcOk L at') (g1 : nn.1 ≤ i.1) (g2 : nn ≠ i) (g3 : (nn.1, nn.2 + 5000) ≠ i) :
    CallsA Try.prog 43 [.ptr i 0 0 0, n.enc] (Hp.none.put i (sE L at')) nn (RawR i nn L n.segs.length n.ports.length) := by
  obtain ⟨a, b⟩ := nn
  obtain ⟨c, d⟩ := i
  dsimp only at g1
  obtain ⟨code, h1, h2⟩ := c43_ok
  refine callsA_ofM T1_ok mixed (N := fun t => (c + 1, t)) Try.func43 h1 h2 r43_ok [(c, d), (a, b), (a, b + 5000)] true (js_raw c d a b _) (js_raw' c d a b _) (by simp [Try.f43]) ?_
  have zs := hz.segs
  have zp := hz.ports
  have q1 : (c + 1 = a) = False := by simp; omega
  have q2 : (a = c + 1) = False := by simp; omega
  have q3 : (b + 5000 = b) = False := by simp
  have q4 : (b = b + 5000) = False := by simp
  have q5 : ¬ (c = a ∧ d = b) := fun e => g2 (by rw [e.1, e.2])
  have q6 : ¬ (a = c ∧ b = d) := fun e => g2 (by rw [e.1, e.2])
  have q7 : ¬ (c = a ∧ d = b + 5000) := fun e => g3 (by rw [e.1, e.2])
  have q8 : ¬ (a = c ∧ b + 5000 = d) := fun e => g3 (by rw [e.1, e.2])
  have q9 : (c + 1 = c) = False := by simp
  have q10 : (c = c + 1) = False := by simp
  simp (config := { maxSteps := 500000 }) only [↓vp, vv, implies_true, forall_const, undef, InI, ↓reduceIte, simprocAttr, c43, T1, Net.enc, q1, q2, q3, q4, q5, q6, q7, q8, q9, q10]
  rw [vc_loop]
  refine ⟨fun k st => ∃ (u : SA L) (x : List Bool), x.length + k = n.segs.length ∧ st = ⟨fr (RwF c d [(6, di x.length)]), RwH n c d a b L u.1 x []⟩, ⟨n.segs.length, _, (weak_ownC (c + 1, 5) 0 2 [] [.mt] (a, b) 1 (by simp (config := { maxSteps := 500000 }) only [↓vp, vv, implies_true, forall_const, undef, InI, ↓reduceIte, simprocAttr, q1, q2, q3, q4, q5, q6, q7, q8, q9, q10]) (by simp (config := { maxSteps := 500000 }) only [↓vp, vv, implies_true, forall_const, undef, InI, ↓reduceIte, simprocAttr, q1, q2, q3, q4, q5, q6, q7, q8, q9, q10])).trans ((weak_ownC (c + 1, 5) 0 2 [.own (a, b) 0 0 0] [] (a, b + 5000) 1 (by simp (config := { maxSteps := 500000 }) only [↓vp, vv, implies_true, forall_const, undef, InI, ↓reduceIte, simprocAttr, q1, q2, q3, q4, q5, q6, q7, q8, q9, q10]) (by simp (config := { maxSteps := 500000 }) only [↓vp, vv, implies_true, forall_const, undef, InI, ↓reduceIte, simprocAttr, q1, q2, q3, q4, q5, q6, q7, q8, q9, q10])).trans (weak_eq [] [(c, d), (c + 1, 3), (c + 1, 4), (c + 1, 5), (a, b), (a, b + 5000)] (RwF c d [(6, di 0)]) (by simp (config := { maxSteps := 500000 }) only [↓vp, vv, implies_true, forall_const, undef, InI, ↓reduceIte, simprocAttr, coverS, RwF, RwH, sE, netD, bRow, q1, q2, q3, q4, q5, q6, q7, q8, q9, q10]) (by simp (config := { maxSteps := 500000 }) only [↓vp, vv, implies_true, forall_const, undef, InI, ↓reduceIte, simprocAttr, refsF, RwF, RwH, sE, netD, bRow, q1, q2, q3, q4, q5, q6, q7, q8, q9, q10]) (by simp (config := { maxSteps := 500000 }) only [↓vp, vv, implies_true, forall_const, undef, InI, ↓reduceIte, simprocAttr, RwF, RwH, sE, netD, bRow, q1, q2, q3, q4, q5, q6, q7, q8, q9, q10]) (by simp) (by simp (config := { maxSteps := 500000 }) only [↓vp, vv, implies_true, forall_const, undef, InI, ↓reduceIte, simprocAttr, RwF, RwH, sE, netD, bRow, q1, q2, q3, q4, q5, q6, q7, q8, q9, q10]; try rfl))), ⟨at', ho⟩, [], by simp, rfl⟩, ?_⟩
  rintro k st ⟨u, x, hk, rfl⟩
  have uo := u.2
  by_cases hj : (x.length : Int) < n.segs.length
  · have w1 := idx_next (j := x.length) (by omega)
    have y1 : (x.length + 1) * 1 ≤ 140737488355328 := by omega
    have y2 : x.length + 1 ≤ 4611686018427387904 := by omega
    simp (config := { maxSteps := 500000 }) only [↓vp, vv, implies_true, forall_const, undef, InI, ↓reduceIte, simprocAttr, c43_2, c43_1, T1, selI, uo, RwF, RwH, netD, hj, w1, y1, y2, q1, q2, q3, q4, q5, q6, q7, q8, q9, q10]
    intro a1 v hv
    exact ⟨k - 1, _, by omega, (weak_eq [] [(c, d), (c + 1, 3), (c + 1, 4), (c + 1, 5), (a, b), (a, b + 5000)] (RwF c d [(6, di (x.length + 1 : Nat))]) (by simp (config := { maxSteps := 500000 }) only [↓vp, vv, implies_true, forall_const, undef, InI, ↓reduceIte, simprocAttr, coverS, RwF, RwH, sE, netD, bRow, q1, q2, q3, q4, q5, q6, q7, q8, q9, q10, w1, List.map_append, List.length_append, List.length_cons, List.length_nil]) (by simp (config := { maxSteps := 500000 }) only [↓vp, vv, implies_true, forall_const, undef, InI, ↓reduceIte, simprocAttr, refsF, RwF, RwH, sE, netD, bRow, q1, q2, q3, q4, q5, q6, q7, q8, q9, q10, w1, List.map_append, List.length_append, List.length_cons, List.length_nil]) (by simp (config := { maxSteps := 500000 }) only [↓vp, vv, implies_true, forall_const, undef, InI, ↓reduceIte, simprocAttr, RwF, RwH, sE, netD, bRow, q1, q2, q3, q4, q5, q6, q7, q8, q9, q10, w1, List.map_append, List.length_append, List.length_cons, List.length_nil]) (by simp) (by simp (config := { maxSteps := 500000 }) only [↓vp, vv, implies_true, forall_const, undef, InI, ↓reduceIte, simprocAttr, RwF, RwH, sE, netD, bRow, q1, q2, q3, q4, q5, q6, q7, q8, q9, q10, w1, List.map_append, List.length_append, List.length_cons, List.length_nil]; try rfl)), a1, x ++ [v == 0], by simp; omega, by simp [RwF, RwH, sE, bRow, netD]⟩
  · simp (config := { maxSteps := 500000 }) only [↓vp, vv, implies_true, forall_const, undef, InI, ↓reduceIte, simprocAttr, c43_2, c43_6, RwF, RwH, netD, hj, q1, q2, q3, q4, q5, q6, q7, q8, q9, q10]
    have hxl : x.length = n.segs.length := by omega
    rw [vc_loop]
    refine ⟨fun k st => ∃ (u : SA L) (y : List Bool), y.length + k = n.ports.length ∧ st = ⟨fr (RwF c d [(7, di y.length)]), RwH n c d a b L u.1 x y⟩, ⟨n.ports.length, _, (weak_eq [] [(c, d), (c + 1, 3), (c + 1, 4), (c + 1, 5), (a, b), (a, b + 5000)] (RwF c d [(7, di 0)]) (by simp (config := { maxSteps := 500000 }) only [↓vp, vv, implies_true, forall_const, undef, InI, ↓reduceIte, simprocAttr, coverS, RwF, RwH, sE, netD, bRow, q1, q2, q3, q4, q5, q6, q7, q8, q9, q10]) (by simp (config := { maxSteps := 500000 }) only [↓vp, vv, implies_true, forall_const, undef, InI, ↓reduceIte, simprocAttr, refsF, RwF, RwH, sE, netD, bRow, q1, q2, q3, q4, q5, q6, q7, q8, q9, q10]) (by simp (config := { maxSteps := 500000 }) only [↓vp, vv, implies_true, forall_const, undef, InI, ↓reduceIte, simprocAttr, RwF, RwH, sE, netD, bRow, q1, q2, q3, q4, q5, q6, q7, q8, q9, q10]) (by simp) (by simp (config := { maxSteps := 500000 }) only [↓vp, vv, implies_true, forall_const, undef, InI, ↓reduceIte, simprocAttr, RwF, RwH, sE, netD, bRow, q1, q2, q3, q4, q5, q6, q7, q8, q9, q10]; try rfl)), u, [], by simp, rfl⟩, ?_⟩
    rintro k st ⟨u, y, hk, rfl⟩
    have uo := u.2
    by_cases hj : (y.length : Int) < n.ports.length
    · have w1 := idx_next (j := y.length) (by omega)
      have y1 : (y.length + 1) * 1 ≤ 140737488355328 := by omega
      have y2 : y.length + 1 ≤ 4611686018427387904 := by omega
      simp (config := { maxSteps := 500000 }) only [↓vp, vv, implies_true, forall_const, undef, InI, ↓reduceIte, simprocAttr, c43_4, c43_3, T1, selI, uo, RwF, RwH, netD, hj, w1, y1, y2, q1, q2, q3, q4, q5, q6, q7, q8, q9, q10]
      intro a1 v hv
      exact ⟨k - 1, _, by omega, (weak_eq [] [(c, d), (c + 1, 3), (c + 1, 4), (c + 1, 5), (a, b), (a, b + 5000)] (RwF c d [(7, di (y.length + 1 : Nat))]) (by simp (config := { maxSteps := 500000 }) only [↓vp, vv, implies_true, forall_const, undef, InI, ↓reduceIte, simprocAttr, coverS, RwF, RwH, sE, netD, bRow, q1, q2, q3, q4, q5, q6, q7, q8, q9, q10, w1, List.map_append, List.length_append, List.length_cons, List.length_nil]) (by simp (config := { maxSteps := 500000 }) only [↓vp, vv, implies_true, forall_const, undef, InI, ↓reduceIte, simprocAttr, refsF, RwF, RwH, sE, netD, bRow, q1, q2, q3, q4, q5, q6, q7, q8, q9, q10, w1, List.map_append, List.length_append, List.length_cons, List.length_nil]) (by simp (config := { maxSteps := 500000 }) only [↓vp, vv, implies_true, forall_const, undef, InI, ↓reduceIte, simprocAttr, RwF, RwH, sE, netD, bRow, q1, q2, q3, q4, q5, q6, q7, q8, q9, q10, w1, List.map_append, List.length_append, List.length_cons, List.length_nil]) (by simp) (by simp (config := { maxSteps := 500000 }) only [↓vp, vv, implies_true, forall_const, undef, InI, ↓reduceIte, simprocAttr, RwF, RwH, sE, netD, bRow, q1, q2, q3, q4, q5, q6, q7, q8, q9, q10, w1, List.map_append, List.length_append, List.length_cons, List.length_nil]; try rfl)), a1, y ++ [v == 0], by simp; omega, by simp [RwF, RwH, sE, bRow, netD]⟩
    · have hyl : y.length = n.ports.length := by omega
      rw [← hxl, ← hyl]
      simp (config := { maxSteps := 500000 }) only [↓vp, vv, implies_true, forall_const, undef, InI, ↓reduceIte, simprocAttr, c43_4, c43_5, r43, RwF, RwH, netD, hj, q1, q2, q3, q4, q5, q6, q7, q8, q9, q10]
      exact ⟨⟨fun _ _ => rfl, fun _ _ => rfl⟩, u.1, x, y, uo, ⟨rfl, rfl⟩, rfl, rfl⟩
end Go.Proofs.Ytkjibmfggeibjaa
/- Lineups: All as a list of one's own, comparisons; what LineupNeeds calls. -/
/- Lineups: All as a list of one's own, comparisons; what LineupNeeds calls. -/
namespace Go.Proofs.Ytkjibmfggeibjaa
open Go
set_option linter.unusedVariables false
set_option linter.unusedSimpArgs false
set_option maxRecDepth 100000

theorem js_nn0 (a b : Nat) {Hs : Hp} : ∀ j ∈ [(a, b)], (Hs j).isSome = true ∨ j = (a, b) := fun j h => .inr (List.mem_singleton.1 h)
set_option maxHeartbeats 4000000 in
theorem all_o (l : Lnp) (h1' : l.segs.length ≤ 1000000) (h2' : l.ports.length ≤ 1000000) (nn : Nm) : CallsA Try.prog 170 [l.enc] Hp.none nn (Pu (.own nn 2 0 (lall l).length) (Hp.none.put nn ⟨2, 1, (lall l).map bRow⟩)) := by
  obtain ⟨a, b⟩ := nn
  obtain ⟨code, h1, h2⟩ := c170_ok
  refine callsA_of (T0_ok _) mixed (N := fun t => if t = 3 then (a, b) else (a + 1, t)) Try.func170 h1 h2 r170_ok [(a, b)] true js_nil0 (js_nn0 a b) (by simp [Try.f170]) ?_
  have y1 : l.segs.length * 1 ≤ 140737488355328 := by omega
  have y2 : l.segs.length ≤ 4611686018427387904 := by omega
  have y3 : (l.segs.length + l.ports.length) * 1 ≤ 140737488355328 := by omega
  have y4 : l.segs.length + l.ports.length ≤ 4611686018427387904 := by omega
  have e1 : l.segs.map bRow ++ l.ports.map bRow = (l.segs ++ l.ports).map bRow := (List.map_append ..).symm
  have e2 : (lall l).length = l.segs.length + l.ports.length := by simp [lall]
  have e3 : lall l = l.segs ++ l.ports := rfl
  have q1 : (a + 1 = a) = False := by simp
  have q2 : (a = a + 1) = False := by simp
  rw [e2, e3]
  simp (config := { maxSteps := 500000 }) only [↓vp, vv, implies_true, forall_const, undef, InI, ↓reduceIte, simprocAttr, c170, r170, r170, Lnp.enc, lnpD, bRow_len, y1, y2, y3, y4, e1, q1, q2, Pu]
  exact ⟨fun _ _ => rfl, fun _ _ => rfl⟩
def selSB : List D → Option (Prop × D)
  | [.sl u, .sl v] => match lsOf boolOf1 u, lsOf boolOf1 v with
    | some x, some y => some (x = y ∧ x.length ≤ 2000000, db true)
    | _, _ => Option.none
  | _ => Option.none
def SbF (x : List Bool) (j : Int) : List (Nat × D) := [(0, .sl (x.map bRow)), (1, .sl (x.map bRow)), (5, di j)]
set_option maxHeartbeats 4000000 in
theorem sameB_c (x : List Bool) (hx : x.length ≤ 2000000) (nn : Nm) : CallsA Try.prog 116 [.sl (x.map bRow), .sl (x.map bRow)] Hp.none nn (Pu (db true) Hp.none) := by
  obtain ⟨code, h1, h2⟩ := c116_ok
  refine callsA_of (T0_ok _) mixed (N := fun t => (0, t)) Try.func116 h1 h2 r116_ok [] false js_nil js_nil' (by simp [Try.f116]) ?_
  simp (config := { maxSteps := 500000 }) only [↓vp, vv, implies_true, forall_const, undef, InI, ↓reduceIte, simprocAttr, c116, r116, c116_1, c116_2, c116_3, c116_4, c116_5, bne_self_eq_false]
  refine rng_loop x.length (fun j => ⟨fr (SbF x j), Hp.none⟩) (fun _ => True) (weak_eq [] [] (SbF x 0) (by simp (config := { maxSteps := 500000 }) only [↓vp, vv, implies_true, forall_const, undef, InI, ↓reduceIte, simprocAttr, coverS, SbF]) (by simp (config := { maxSteps := 500000 }) only [↓vp, vv, implies_true, forall_const, undef, InI, ↓reduceIte, simprocAttr, refsF, SbF]) (by simp (config := { maxSteps := 500000 }) only [↓vp, vv, implies_true, forall_const, undef, InI, ↓reduceIte, simprocAttr, SbF]) (by simp) (by simp (config := { maxSteps := 500000 }) only [↓vp, vv, implies_true, forall_const, undef, InI, ↓reduceIte, simprocAttr, SbF]; try rfl)) trivial (fun j hj _ => ?_) (fun _ => ?_)
  · have hj' : (j : Int) < x.length := by omega
    have hjn := idx_nn j
    have w1 := idx_next (j := j) (by omega)
    have hg := bRow_g x j hj
    generalize x[j] = u at hg
    have hu : (u != u) = false := by cases u <;> rfl
    simp (config := { maxSteps := 500000 }) only [↓vp, vv, implies_true, forall_const, undef, InI, ↓reduceIte, simprocAttr, c116, r116, c116_1, c116_2, c116_3, c116_4, c116_5, SbF, hj', hjn, Int.toNat_natCast, hg, hu, w1]
    exact rng_next hj (weak_eq [] [] (SbF x (j + 1 : Nat)) (by simp (config := { maxSteps := 500000 }) only [↓vp, vv, implies_true, forall_const, undef, InI, ↓reduceIte, simprocAttr, coverS, SbF, w1]) (by simp (config := { maxSteps := 500000 }) only [↓vp, vv, implies_true, forall_const, undef, InI, ↓reduceIte, simprocAttr, refsF, SbF, w1]) (by simp (config := { maxSteps := 500000 }) only [↓vp, vv, implies_true, forall_const, undef, InI, ↓reduceIte, simprocAttr, SbF, w1]) (by simp) (by simp (config := { maxSteps := 500000 }) only [↓vp, vv, implies_true, forall_const, undef, InI, ↓reduceIte, simprocAttr, SbF, w1]; try rfl)) trivial
  · simp (config := { maxSteps := 500000 }) only [↓vp, vv, implies_true, forall_const, undef, InI, ↓reduceIte, simprocAttr, c116, r116, c116_1, c116_2, c116_3, c116_4, c116_5, r116, SbF, Int.lt_irrefl, Pu]
theorem tc_sb {T : Tbl} (hT : TblOk Try.prog T) : TblOk Try.prog (tc 116 (rowPu selSB) T) :=
  tc_pu f116_ok (fun args pre d h hp nn => by
    unfold selSB at h
    split at h
    · split at h
      · rename_i e1 e2
        cases h
        rw [lsOf_eq (fun r x => boolOf1_eq) e1, lsOf_eq (fun r x => boolOf1_eq) e2, hp.1]
        exact sameB_c _ (by rw [← hp.1]; exact hp.2) nn
      · cases h
    · cases h) hT
def chgR (nn : Nm) (x y : Lnp) : D → Hp → Prop := Pu (.tup [.own nn (dif (lall x) (lall y) (lall x).length).length 0 (dif (lall x) (lall y) (lall x).length).length, .own (nn.1, nn.2 + 5000) (dif (lall y) (lall x) (lall x).length).length 0 (dif (lall y) (lall x) (lall x).length).length, di 0]) (ChH nn.1 nn.2 (lall x) (lall y) (lall x).length)
def rowChg : List D → Hp → Nm → Option (Prop × (D → Hp → Prop)) := fun args Hs nn =>
  match args with
  | [.agg a, .agg b, .agg c] =>
    match netOf1 a, lnpOf1 b, lnpOf1 c with
    | some n, some x, some y => some (Hs = Hp.none ∧ NetSz n ∧ checkI n = 0 ∧ lvB n x = true ∧ lvB n y = true, chgR nn x y)
    | _, _, _ => Option.none
  | _ => Option.none
theorem tc_chg {T : Tbl} (hT : TblOk Try.prog T) : TblOk Try.prog (tc 103 rowChg T) :=
  tc_row f103_ok (fun args Hs nn pre R hr hp => by
    unfold rowChg at hr
    split at hr
    · split at hr
      · rename_i e1 e2 e3
        cases hr
        obtain ⟨rfl, h1, h2, h3, h4⟩ := hp
        rw [netOf1_eq e1, lnpOf1_eq e2, lnpOf1_eq e3]
        exact ⟨⟨_, _, rfl, rfl⟩, changes_o _ h1 _ _ h2 h3 h4 nn⟩
      · cases hr
    · cases hr) hT
def rowAll : List D → Hp → Nm → Option (Prop × (D → Hp → Prop)) := fun args Hs nn =>
  match args with
  | [.agg a] =>
    match lnpOf1 a with
    | some l => some (Hs = Hp.none ∧ LnpSz l, Pu (.own nn 2 0 (lall l).length) (Hp.none.put nn ⟨2, 1, (lall l).map bRow⟩))
    | _ => Option.none
  | _ => Option.none
theorem tc_all {T : Tbl} (hT : TblOk Try.prog T) : TblOk Try.prog (tc 170 rowAll T) :=
  tc_row f170_ok (fun args Hs nn pre R hr hp => by
    unfold rowAll at hr
    split at hr
    · split at hr
      · rename_i e1
        cases hr
        obtain ⟨rfl, h1⟩ := hp
        rw [lnpOf1_eq e1]
        exact ⟨⟨_, _, rfl, rfl⟩, all_o _ h1.1 h1.2 nn⟩
      · cases hr
    · cases hr) hT
def rowRaw : List D → Hp → Nm → Option (Prop × (D → Hp → Prop)) := fun args Hs nn =>
  match args with
  | [.ptr i g r c, .agg a] =>
    match netOf1 a, Hs i with
    | some n, some ⟨_, _, [[.sl L, .v (.int .i64 at')]]⟩ => some ((Hs = Hp.none.put i (sE L at') ∧ g = 0 ∧ r = 0 ∧ c = 0) ∧ SrcOk L at' ∧ NetSz n ∧ nn.1 ≤ i.1 ∧ nn ≠ i ∧ (nn.1, nn.2 + 5000) ≠ i, RawR i nn L n.segs.length n.ports.length)
    | _, _ => Option.none
  | _ => Option.none
theorem tc_raw {T : Tbl} (hT : TblOk Try.prog T) : TblOk Try.prog (tc 43 rowRaw T) :=
  tc_row f43_ok (fun args Hs nn pre R hr hp => by
    unfold rowRaw at hr
    split at hr
    · split at hr
      · rename_i e1 e2
        cases hr
        obtain ⟨⟨h1, rfl, rfl, rfl⟩, h2, h3, h4, h5, h6⟩ := hp
        rw [h1, netOf1_eq e1]
        exact ⟨⟨_, _, _, List.replicate _ false, List.replicate _ false, h2, ⟨List.length_replicate, List.length_replicate⟩, rfl, rfl⟩, raw_o _ h3 _ _ _ _ h2 h4 h5 h6⟩
      · cases hr
    · cases hr) hT
end Go.Proofs.Ytkjibmfggeibjaa
/- LineupNeeds: the plain law. -/
namespace Go.Proofs.Ytkjibmfggeibjaa
open Go
set_option linter.unusedVariables false
set_option linter.unusedSimpArgs false
set_option maxRecDepth 100000

end Go.Proofs.Ytkjibmfggeibjaa
