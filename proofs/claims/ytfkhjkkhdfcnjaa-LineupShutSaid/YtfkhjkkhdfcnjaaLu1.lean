
/- Lineups: Valid, flows, Numbers, Need, Permits. -/
import Derived.Test.YtfkhjkkhdfcnjaaFw4
import Derived.Test.YtfkhjkkhdfcnjaaCodeLU
namespace Go.Proofs.Ytfkhjkkhdfcnjaa
open Go
set_option linter.unusedVariables false
set_option linter.unusedSimpArgs false
set_option maxRecDepth 100000

structure Lnp where
  segs : List Bool
  ports : List Bool
def lnpD (l : Lnp) : List D := [.sl (l.segs.map bRow), .sl (l.ports.map bRow)]
def Lnp.enc (l : Lnp) : D := .agg (lnpD l)
def lnpOf1 : List D → Option Lnp
  | [.sl a, .sl b] => match lsOf boolOf1 a, lsOf boolOf1 b with
    | some x, some y => some ⟨x, y⟩
    | _, _ => Option.none
  | _ => Option.none
theorem lnpOf1_row (p : Lnp) : lnpOf1 (lnpD p) = some p := by
  unfold lnpD lnpOf1
  simp only [lsOf_map boolOf1_row]
theorem lnpOf1_eq {r : List D} {p : Lnp} (h : lnpOf1 r = some p) : r = lnpD p := by
  unfold lnpOf1 at h
  split at h
  · split at h
    · rename_i e1 e2
      cases h
      rw [lsOf_eq (fun r x => boolOf1_eq) e1, lsOf_eq (fun r x => boolOf1_eq) e2]
      rfl
    · cases h
  · cases h
def selNL (ok : Net → Lnp → Prop) (out : Net → Lnp → D) : List D → Option (Prop × D)
  | [.agg a, .agg b] => match netOf1 a, lnpOf1 b with
    | some n, some l => some (ok n l, out n l)
    | _, _ => Option.none
  | _ => Option.none
theorem tc_nl {f : FuncId} {T : Tbl} {ok : Net → Lnp → Prop} {out : Net → Lnp → D} (hf : fnOk Try.prog f = true) (h : ∀ n l, ok n l → ∀ nn, CallsA Try.prog f [n.enc, l.enc] Hp.none nn (Pu (out n l) Hp.none)) (hT : TblOk Try.prog T) : TblOk Try.prog (tc f (rowPu (selNL ok out)) T) :=
  tc_pu hf (fun args pre d hs hp nn => by
    unfold selNL at hs
    split at hs
    · split at hs
      · rename_i e1 e2
        cases hs
        rw [netOf1_eq e1, lnpOf1_eq e2]
        exact h _ _ hp nn
      · cases hs
    · cases hs) hT
def selL (ok : Lnp → Prop) (out : Lnp → D) : List D → Option (Prop × D)
  | [.agg b] => match lnpOf1 b with
    | some l => some (ok l, out l)
    | Option.none => Option.none
  | _ => Option.none
theorem tc_l {f : FuncId} {T : Tbl} {ok : Lnp → Prop} {out : Lnp → D} (hf : fnOk Try.prog f = true) (h : ∀ l, ok l → ∀ nn, CallsA Try.prog f [l.enc] Hp.none nn (Pu (out l) Hp.none)) (hT : TblOk Try.prog T) : TblOk Try.prog (tc f (rowPu (selL ok out)) T) :=
  tc_pu hf (fun args pre d hs hp nn => by
    unfold selL at hs
    split at hs
    · split at hs
      · rename_i e2
        cases hs
        rw [lnpOf1_eq e2]
        exact h _ hp nn
      · cases hs
    · cases hs) hT
def lvB (n : Net) (l : Lnp) : Bool := if ((l.segs.length : Int) == n.segs.length) = true then ((l.ports.length : Int) == n.ports.length) else false
set_option maxHeartbeats 2000000 in
theorem lvalid_c (n : Net) (l : Lnp) (nn : Nm) : CallsA Try.prog 107 [n.enc, l.enc] Hp.none nn (Pu (db (lvB n l)) Hp.none) := by
  obtain ⟨code, h1, h2⟩ := c107_ok
  refine callsA_of (T0_ok _) mixed (N := fun t => (0, t)) Try.func107 h1 h2 r107_ok [] false js_nil js_nil' (by simp [Try.f107]) ?_
  cases a1 : ((l.segs.length : Int) == n.segs.length) <;> simp (config := { maxSteps := 500000 }) only [↓vp, vv, implies_true, forall_const, undef, InI, ↓reduceIte, simprocAttr, c107, r107, r107, Net.enc, Lnp.enc, lnpD, a1, lvB, Pu]
set_option maxHeartbeats 2000000 in
theorem rlvalid_c (n : Net) (l : Lnp) (nn : Nm) : CallsA Try.prog 126 [n.enc, l.enc] Hp.none nn (Pu (db (lvB n l)) Hp.none) := by
  obtain ⟨code, h1, h2⟩ := c126_ok
  refine callsA_of (T0_ok _) mixed (N := fun t => (0, t)) Try.func126 h1 h2 r126_ok [] false js_nil js_nil' (by simp [Try.f126]) ?_
  cases a1 : ((l.segs.length : Int) == n.segs.length) <;> simp (config := { maxSteps := 500000 }) only [↓vp, vv, implies_true, forall_const, undef, InI, ↓reduceIte, simprocAttr, c126, r126, r126, Net.enc, Lnp.enc, lnpD, a1, lvB, Pu]
def nz (r : Int) : Bool := r != 0
theorem bRow_g (R : List Bool) (j : Nat) (h : j < R.length) : (R.map bRow).getD j [] = [db R[j]] := by rw [getD_map bRow R j h]; rfl
theorem bRow_len (b : Bool) : (bRow b).length = 1 := rfl
def nzs (R : List Int) (j : Nat) : List Bool := (R.take j).map nz
theorem nzs_len {R : List Int} {j : Nat} (h : j ≤ R.length) : (nzs R j).length = j := by unfold nzs; rw [List.length_map, List.length_take]; omega
theorem nzs_succ {R : List Int} {j : Nat} (h : j < R.length) : nzs R (j + 1) = nzs R j ++ [nz R[j]] := by unfold nzs; rw [← List.take_append_getElem h, List.map_append]; rfl
theorem nzs_all (R : List Int) : nzs R R.length = R.map nz := by unfold nzs; rw [List.take_length]

def FlwF (R : List Int) (j : Nat) : List (Nat × D) := [(3, .own (0, 1000) j 0 j), (6, .sl (R.map iRow)), (7, di R.length), (8, di j)]
def FlwH (R : List Int) (j : Nat) : Hp := Hp.none.put (0, 1000) ⟨j, 1, (nzs R j).map bRow⟩
set_option maxHeartbeats 4000000 in
theorem flows_c (R : List Int) (hR : R.length ≤ 1000000) (nn : Nm) : CallsA Try.prog 106 [.sl (R.map iRow)] Hp.none nn (Pu (.sl ((R.map nz).map bRow)) Hp.none) := by
  obtain ⟨code, h1, h2⟩ := c106_ok
  refine callsA_of (T0_ok _) mixed (N := fun t => (0, t)) Try.func106 h1 h2 r106_ok [] false js_nil js_nil' (by simp [Try.f106]) ?_
  simp (config := { maxSteps := 500000 }) only [↓vp, vv, implies_true, forall_const, undef, InI, ↓reduceIte, simprocAttr, c106]
  refine rng_loop R.length (fun j => ⟨fr (FlwF R j), FlwH R j⟩) (fun _ => True) ((weak_own 3 (0, 1000) 1 (by simp (config := { maxSteps := 500000 }) only [↓vp, vv, implies_true, forall_const, undef, InI, ↓reduceIte, simprocAttr, ]) (by simp (config := { maxSteps := 500000 }) only [↓vp, vv, implies_true, forall_const, undef, InI, ↓reduceIte, simprocAttr, ])).trans (weak_eq [] [(0, 1000)] (FlwF R 0) (by simp (config := { maxSteps := 500000 }) only [↓vp, vv, implies_true, forall_const, undef, InI, ↓reduceIte, simprocAttr, coverS, FlwF, FlwH, bRow, nzs, List.take_zero]) (by simp (config := { maxSteps := 500000 }) only [↓vp, vv, implies_true, forall_const, undef, InI, ↓reduceIte, simprocAttr, refsF, FlwF, FlwH, bRow, nzs, List.take_zero]) (by simp (config := { maxSteps := 500000 }) only [↓vp, vv, implies_true, forall_const, undef, InI, ↓reduceIte, simprocAttr, FlwF, FlwH, bRow, nzs, List.take_zero]) (by simp) (by simp (config := { maxSteps := 500000 }) only [↓vp, vv, implies_true, forall_const, undef, InI, ↓reduceIte, simprocAttr, FlwF, FlwH, bRow, nzs, List.take_zero]; try rfl))) trivial (fun j hj _ => ?_) (fun _ => ?_)
  · have hj' : (j : Int) < R.length := by omega
    have hjn := idx_nn j
    have w1 := idx_next (j := j) (by omega)
    have hg := iRow_at R j hj
    have ht := nzs_succ hj
    have hlj := nzs_len (R := R) (j := j) (by omega)
    generalize R[j] = r at hg ht
    have hz : (r != 0) = nz r := rfl
    have y1 : (j + 1) * 1 ≤ 140737488355328 := by omega
    have y2 : j + 1 ≤ 4611686018427387904 := by omega
    simp (config := { maxSteps := 500000 }) only [↓vp, vv, implies_true, forall_const, undef, InI, ↓reduceIte, simprocAttr, c106_2, c106_1, FlwF, FlwH, hj', hjn, Int.toNat_natCast, hg, hz, w1, y1, y2, hlj]
    exact rng_next hj (weak_eq [] [(0, 1000)] (FlwF R (j + 1)) (by simp (config := { maxSteps := 500000 }) only [↓vp, vv, implies_true, forall_const, undef, InI, ↓reduceIte, simprocAttr, coverS, FlwF, FlwH, bRow, w1, ht, List.map_append]) (by simp (config := { maxSteps := 500000 }) only [↓vp, vv, implies_true, forall_const, undef, InI, ↓reduceIte, simprocAttr, refsF, FlwF, FlwH, bRow, w1, ht, List.map_append]) (by simp (config := { maxSteps := 500000 }) only [↓vp, vv, implies_true, forall_const, undef, InI, ↓reduceIte, simprocAttr, FlwF, FlwH, bRow, w1, ht, List.map_append]) (by simp) (by simp (config := { maxSteps := 500000 }) only [↓vp, vv, implies_true, forall_const, undef, InI, ↓reduceIte, simprocAttr, FlwF, FlwH, bRow, w1, ht, List.map_append]; try rfl)) trivial
  · rw [show FlwH R R.length = Hp.none.put (0, 1000) ⟨R.length, 1, (R.map nz).map bRow⟩ by unfold FlwH; rw [nzs_all]]
    have hl : (R.map nz).length = R.length := List.length_map _
    generalize R.map nz = Z at hl
    have tk : (Z.map bRow).take R.length = Z.map bRow := List.take_of_length_le (by simp [hl])
    simp (config := { maxSteps := 500000 }) only [↓vp, vv, implies_true, forall_const, undef, InI, ↓reduceIte, simprocAttr, c106_2, c106_3, r106, FlwF, tk, Int.lt_irrefl, Pu]
    exact ⟨fun b _ d hd => by rw [List.mem_singleton.1 hd]; rfl, by omega⟩
set_option maxHeartbeats 4000000 in
theorem numbers_c (l : Lnp) (h1' : l.segs.length ≤ 1000000) (h2' : l.ports.length ≤ 1000000) (nn : Nm) : CallsA Try.prog 108 [l.enc] Hp.none nn (Pu (.sl ((l.segs ++ l.ports).map bRow)) Hp.none) := by
  obtain ⟨code, h1, h2⟩ := c108_ok
  refine callsA_of (T0_ok _) mixed (N := fun t => (0, t)) Try.func108 h1 h2 r108_ok [] false js_nil js_nil' (by simp [Try.f108]) ?_
  have y1 : l.segs.length * 1 ≤ 140737488355328 := by omega
  have y2 : l.segs.length ≤ 4611686018427387904 := by omega
  have y3 : (l.segs.length + l.ports.length) * 1 ≤ 140737488355328 := by omega
  have y4 : l.segs.length + l.ports.length ≤ 4611686018427387904 := by omega
  have e1 : l.segs.map bRow ++ l.ports.map bRow = (l.segs ++ l.ports).map bRow := (List.map_append ..).symm
  have tk : ((l.segs ++ l.ports).map bRow).take (l.segs.length + l.ports.length) = (l.segs ++ l.ports).map bRow := List.take_of_length_le (by simp)
  simp (config := { maxSteps := 500000 }) only [↓vp, vv, implies_true, forall_const, undef, InI, ↓reduceIte, simprocAttr, c108, r108, r108, Lnp.enc, lnpD, bRow_len, y1, y2, y3, y4, e1, tk, Pu]
  exact ⟨fun x _ d hd => by rw [List.mem_singleton.1 hd]; rfl, fun x _ d hd => by rw [List.mem_singleton.1 hd]; rfl⟩
set_option maxHeartbeats 4000000 in
theorem all_c (l : Lnp) (h1' : l.segs.length ≤ 1000000) (h2' : l.ports.length ≤ 1000000) (nn : Nm) : CallsA Try.prog 46 [l.enc] Hp.none nn (Pu (.sl ((l.segs ++ l.ports).map bRow)) Hp.none) := by
  obtain ⟨code, h1, h2⟩ := c46_ok
  refine callsA_of (T0_ok _) mixed (N := fun t => (0, t)) Try.func46 h1 h2 r46_ok [] false js_nil js_nil' (by simp [Try.f46]) ?_
  have y1 : l.segs.length * 1 ≤ 140737488355328 := by omega
  have y2 : l.segs.length ≤ 4611686018427387904 := by omega
  have y3 : (l.segs.length + l.ports.length) * 1 ≤ 140737488355328 := by omega
  have y4 : l.segs.length + l.ports.length ≤ 4611686018427387904 := by omega
  have e1 : l.segs.map bRow ++ l.ports.map bRow = (l.segs ++ l.ports).map bRow := (List.map_append ..).symm
  have tk : ((l.segs ++ l.ports).map bRow).take (l.segs.length + l.ports.length) = (l.segs ++ l.ports).map bRow := List.take_of_length_le (by simp)
  simp (config := { maxSteps := 500000 }) only [↓vp, vv, implies_true, forall_const, undef, InI, ↓reduceIte, simprocAttr, c46, r46, r46, Lnp.enc, lnpD, bRow_len, y1, y2, y3, y4, e1, tk, Pu]
  exact ⟨fun x _ d hd => by rw [List.mem_singleton.1 hd]; rfl, fun x _ d hd => by rw [List.mem_singleton.1 hd]; rfl⟩
def selFlw : List D → Option (Prop × D)
  | [.sl rows] => match intsOf rows with
    | some R => some (R.length ≤ 1000000, .sl ((R.map nz).map bRow))
    | Option.none => Option.none
  | _ => Option.none
theorem tc_flw {T : Tbl} (hT : TblOk Try.prog T) : TblOk Try.prog (tc 106 (rowPu selFlw) T) :=
  tc_pu f106_ok (fun args pre d h hp nn => by
    unfold selFlw at h
    split at h
    · split at h
      · rename_i e
        cases h
        rw [intsOf_eq e]
        exact flows_c _ hp nn
      · cases h
    · cases h) hT
def needL (p : Pln) : Lnp := ⟨p.rates.map nz, p.ports.map nz⟩
def needR (n : Net) (p : Pln) : Lnp := if fckI n p = 0 then needL p else ⟨[], []⟩
def TLu0 : Tbl := tc 79 (rowPu (selNet fun n => di (checkI n))) (tc 32 (rowPu (selNP FckPre fun n p => di (fckI n p))) (tc 106 (rowPu selFlw) T0))
theorem TLu0_ok : TblOk Try.prog TLu0 := tc_netf f79_ok check_c (tc_np f32_ok (fun n p h nn => fcheck_c n p h.1 h.2 nn) (tc_flw (T0_ok _)))
theorem fck_chk {n : Net} {p : Pln} (h : ¬ checkI n = 0) : fckI n p = checkI n := by unfold fckI; rw [if_neg h]
set_option maxHeartbeats 4000000 in
theorem need_c (n : Net) (p : Pln) (hz : FckPre n p) (nn : Nm) : CallsA Try.prog 44 [n.enc, p.enc] Hp.none nn (Pu (.tup [(needR n p).enc, di (fckI n p)]) Hp.none) := by
  obtain ⟨code, h1, h2⟩ := c44_ok
  refine callsA_of TLu0_ok mixed (N := fun t => (0, t)) Try.func44 h1 h2 r44_ok [] false js_nil js_nil' (by simp [Try.f44]) ?_
  have hn1 : netOf1 [D.sl (n.nodes.map nmRow), .sl (n.segs.map Seg.row), .sl (n.ports.map Port.row), .sl (n.sts.map Stn.row), di n.vap, di n.set] = some n := netOf1_row n
  have hp1 : plnOf1 [D.sl (p.rates.map iRow), .sl (p.ports.map iRow), .sl (p.pumps.map bRow)] = some p := plnOf1_row p
  have i1 : ∀ R : List Int, intsOf (R.map iRow) = some R := intsOf_map
  have hz1 := hz.1
  have hz2 := hz.2.rates
  have hz3 := hz.2.ports
  by_cases a1 : checkI n = 0
  · by_cases a2 : fckI n p = 0
    · have hr : needR n p = needL p := if_pos a2
      simp (config := { maxSteps := 500000 }) only [↓vp, vv, implies_true, forall_const, undef, InI, ↓reduceIte, simprocAttr, c44, r44, c44_1, c44_2, r44, TLu0, selNet, selNP, selFlw, Net.enc, Pln.enc, plnD, Lnp.enc, lnpD, needL, hr, hn1, hp1, i1, hz, hz1, hz2, hz3, a1, a2, bne_self_eq_false, Pu]
    · have hr : needR n p = ⟨[], []⟩ := if_neg a2
      have a3 : (fckI n p != 0) = true := by simp [a2]
      simp (config := { maxSteps := 500000 }) only [↓vp, vv, implies_true, forall_const, undef, InI, ↓reduceIte, simprocAttr, c44, r44, c44_1, c44_2, r44, TLu0, selNet, selNP, selFlw, Net.enc, Pln.enc, plnD, Lnp.enc, lnpD, hr, hn1, hp1, hz, hz1, a1, a3, bne_self_eq_false, Pu]
  · have hf := fck_chk (p := p) a1
    have a2 : ¬ fckI n p = 0 := by rw [hf]; exact a1
    have hr : needR n p = ⟨[], []⟩ := if_neg a2
    have a3 : (checkI n != 0) = true := by simp [a1]
    simp (config := { maxSteps := 500000 }) only [↓vp, vv, implies_true, forall_const, undef, InI, ↓reduceIte, simprocAttr, c44, r44, c44_1, c44_2, r44, TLu0, selNet, selNP, selFlw, Net.enc, Pln.enc, plnD, Lnp.enc, lnpD, hr, hf, hn1, hp1, hz1, a3, Pu]
/-- Whether nothing of the first list is missing in the second one. -/
def permB (a b : List Bool) : Bool := (a.zip b).all fun x => if x.1 = true then x.2 else true
def selNLP (ok : Net → Lnp → Pln → Prop) (out : Net → Lnp → Pln → D) : List D → Option (Prop × D)
  | [.agg a, .agg b, .agg c] => match netOf1 a, lnpOf1 b, plnOf1 c with
    | some n, some l, some p => some (ok n l p, out n l p)
    | _, _, _ => Option.none
  | _ => Option.none
theorem tc_nlp {f : FuncId} {T : Tbl} {ok : Net → Lnp → Pln → Prop} {out : Net → Lnp → Pln → D} (hf : fnOk Try.prog f = true) (h : ∀ n l p, ok n l p → ∀ nn, CallsA Try.prog f [n.enc, l.enc, p.enc] Hp.none nn (Pu (out n l p) Hp.none)) (hT : TblOk Try.prog T) : TblOk Try.prog (tc f (rowPu (selNLP ok out)) T) :=
  tc_pu hf (fun args pre d hs hp nn => by
    unfold selNLP at hs
    split at hs
    · split at hs
      · rename_i e1 e2 e3
        cases hs
        rw [netOf1_eq e1, lnpOf1_eq e2, plnOf1_eq e3]
        exact h _ _ _ hp nn
      · cases hs
    · cases hs) hT
def LnpSz (l : Lnp) : Prop := l.segs.length ≤ 1000000 ∧ l.ports.length ≤ 1000000
def lall (l : Lnp) : List Bool := l.segs ++ l.ports
def prmI (n : Net) (l : Lnp) (p : Pln) : Bool × Int := if checkI n = 0 then (if lvB n l = true then (if fckI n p = 0 then (permB (lall (needL p)) (lall l), 0) else (false, fckI n p)) else (false, 9)) else (false, checkI n)
def TLu1 : Tbl := tc 79 (rowPu (selNet fun n => di (checkI n))) (tc 44 (rowPu (selNP FckPre fun n p => .tup [(needR n p).enc, di (fckI n p)])) (tc 107 (rowPu (selNL (fun _ _ => True) fun n l => db (lvB n l))) (tc 108 (rowPu (selL LnpSz fun l => .sl ((lall l).map bRow))) T0)))
theorem TLu1_ok : TblOk Try.prog TLu1 := tc_netf f79_ok check_c (tc_np f44_ok (fun n p h nn => need_c n p h nn) (tc_nl f107_ok (fun n l _ nn => lvalid_c n l nn) (tc_l f108_ok (fun l h nn => numbers_c l h.1 h.2 nn) (T0_ok _))))
theorem lv_len {n : Net} {l : Lnp} (h : lvB n l = true) : l.segs.length = n.segs.length ∧ l.ports.length = n.ports.length := by
  unfold lvB at h
  split at h
  · rename_i a
    have a := beq_iff_eq.1 a
    have b := beq_iff_eq.1 h
    omega
  · cases h
theorem fck_len {n : Net} {p : Pln} (h : fckI n p = 0) : p.rates.length = n.segs.length ∧ p.ports.length = n.ports.length ∧ p.pumps.length = n.sts.length := by
  unfold fckI at h
  split at h
  · rename_i a
    cases hl : lenBad n p with
    | false => exact len_ok hl
    | true => rw [hl] at h; simp at h
  · contradiction
def PmF (A B : List Bool) (j : Int) : List (Nat × D) := [(11, .sl (B.map bRow)), (35, .sl (A.map bRow)), (36, di A.length), (37, di j)]
set_option maxHeartbeats 8000000 in
theorem permits_c (n : Net) (l : Lnp) (p : Pln) (hz : FckPre n p) (hl : LnpSz l) (nn : Nm) : CallsA Try.prog 45 [n.enc, l.enc, p.enc] Hp.none nn (Pu (.tup [db (prmI n l p).1, di (prmI n l p).2]) Hp.none) := by
  obtain ⟨code, h1, h2⟩ := c45_ok
  refine callsA_of TLu1_ok mixed (N := fun t => (0, t)) Try.func45 h1 h2 r45_ok [] false js_nil js_nil' (by simp [Try.f45]) ?_
  have hn1 : netOf1 [D.sl (n.nodes.map nmRow), .sl (n.segs.map Seg.row), .sl (n.ports.map Port.row), .sl (n.sts.map Stn.row), di n.vap, di n.set] = some n := netOf1_row n
  have hp1 : plnOf1 [D.sl (p.rates.map iRow), .sl (p.ports.map iRow), .sl (p.pumps.map bRow)] = some p := plnOf1_row p
  have hl1 : ∀ l : Lnp, lnpOf1 [D.sl (l.segs.map bRow), .sl (l.ports.map bRow)] = some l := lnpOf1_row
  have hz1 := hz.1
  by_cases a1 : checkI n = 0
  · cases a2 : lvB n l with
    | false =>
      have hr : prmI n l p = (false, 9) := by unfold prmI; rw [if_pos a1, a2]; rfl
      simp (config := { maxSteps := 500000 }) only [↓vp, vv, implies_true, forall_const, undef, InI, ↓reduceIte, simprocAttr, c45, r45, c45_1, c45_2, c45_3, c45_4, c45_5, c45_6, c45_7, r45, TLu1, selNet, selNP, selNL, Net.enc, Pln.enc, plnD, Lnp.enc, lnpD, hr, hn1, hp1, hl1, hz, hz1, a1, a2, bne_self_eq_false, Pu]
    | true =>
      by_cases a3 : fckI n p = 0
      · have hr : prmI n l p = (permB (lall (needL p)) (lall l), 0) := by unfold prmI; rw [if_pos a1, a2, if_pos rfl, if_pos a3]
        have hnr : needR n p = needL p := if_pos a3
        have hll := lv_len a2
        have hpl := fck_len a3
        have hns : LnpSz (needL p) := ⟨by have := hz.2.rates; simp [needL]; exact this, by have := hz.2.ports; simp [needL]; exact this⟩
        have hAB : (lall (needL p)).length = (lall l).length := by simp [lall, needL]; omega
        have hAz : (lall l).length ≤ 2000000 := by have a := hl.1; have b := hl.2; simp [lall]; omega
        simp (config := { maxSteps := 500000 }) only [↓vp, vv, implies_true, forall_const, undef, InI, ↓reduceIte, simprocAttr, c45, c45_7, c45_6, c45_5, TLu1, selNet, selNP, selNL, selL, Net.enc, Pln.enc, plnD, Lnp.enc, lnpD, hr, hnr, hn1, hp1, hl1, hz, hz1, hl, hns, a1, a2, a3, bne_self_eq_false]
        generalize lall (needL p) = A at hAB
        generalize lall l = B at hAB hAz
        have hZl : (A.zip B).length = A.length := by rw [List.length_zip]; omega
        generalize hb : permB A B = b
        unfold permB at hb
        refine rng_loop A.length (fun j => ⟨fr (PmF A B j), Hp.none⟩) (fun j => ((A.zip B).drop j).all (fun x => if x.1 = true then x.2 else true) = b) (weak_eq [] [] (PmF A B 0) (by simp (config := { maxSteps := 500000 }) only [↓vp, vv, implies_true, forall_const, undef, InI, ↓reduceIte, simprocAttr, coverS, PmF]) (by simp (config := { maxSteps := 500000 }) only [↓vp, vv, implies_true, forall_const, undef, InI, ↓reduceIte, simprocAttr, refsF, PmF]) (by simp (config := { maxSteps := 500000 }) only [↓vp, vv, implies_true, forall_const, undef, InI, ↓reduceIte, simprocAttr, PmF]) (by simp) (by simp (config := { maxSteps := 500000 }) only [↓vp, vv, implies_true, forall_const, undef, InI, ↓reduceIte, simprocAttr, PmF]; try rfl)) hb (fun j hj he => ?_) (fun he => ?_)
        · have hj' : (j : Int) < A.length := by omega
          have hjB : (j : Int) < B.length := by omega
          have hjn := idx_nn j
          have w1 := idx_next (j := j) (by omega)
          have hjb : j < B.length := by omega
          have hjz : j < (A.zip B).length := by omega
          obtain ⟨gf, gt⟩ := drop_all hjz he
          have hzz : (A.zip B)[j] = (A[j], B[j]) := List.getElem_zip
          rw [hzz] at gf gt
          have hgA := bRow_g A j hj
          have hgB := bRow_g B j hjb
          generalize A[j] = x at gf gt hgA
          generalize B[j] = y at gf gt hgB
          cases x with
          | false =>
            simp (config := { maxSteps := 500000 }) only [↓vp, vv, implies_true, forall_const, undef, InI, ↓reduceIte, simprocAttr, c45_3, c45_2, c45_1, PmF, hj', hjB, hjn, Int.toNat_natCast, hgA, hgB, w1]
            exact rng_next hj (weak_eq [] [] (PmF A B (j + 1 : Nat)) (by simp (config := { maxSteps := 500000 }) only [↓vp, vv, implies_true, forall_const, undef, InI, ↓reduceIte, simprocAttr, coverS, PmF, w1]) (by simp (config := { maxSteps := 500000 }) only [↓vp, vv, implies_true, forall_const, undef, InI, ↓reduceIte, simprocAttr, refsF, PmF, w1]) (by simp (config := { maxSteps := 500000 }) only [↓vp, vv, implies_true, forall_const, undef, InI, ↓reduceIte, simprocAttr, PmF, w1]) (by simp) (by simp (config := { maxSteps := 500000 }) only [↓vp, vv, implies_true, forall_const, undef, InI, ↓reduceIte, simprocAttr, PmF, w1]; try rfl)) (gt rfl)
          | true =>
            cases y with
            | true =>
              simp (config := { maxSteps := 500000 }) only [↓vp, vv, implies_true, forall_const, undef, InI, ↓reduceIte, simprocAttr, c45_3, c45_2, c45_1, PmF, hj', hjB, hjn, Int.toNat_natCast, hgA, hgB, w1]
              exact rng_next hj (weak_eq [] [] (PmF A B (j + 1 : Nat)) (by simp (config := { maxSteps := 500000 }) only [↓vp, vv, implies_true, forall_const, undef, InI, ↓reduceIte, simprocAttr, coverS, PmF, w1]) (by simp (config := { maxSteps := 500000 }) only [↓vp, vv, implies_true, forall_const, undef, InI, ↓reduceIte, simprocAttr, refsF, PmF, w1]) (by simp (config := { maxSteps := 500000 }) only [↓vp, vv, implies_true, forall_const, undef, InI, ↓reduceIte, simprocAttr, PmF, w1]) (by simp) (by simp (config := { maxSteps := 500000 }) only [↓vp, vv, implies_true, forall_const, undef, InI, ↓reduceIte, simprocAttr, PmF, w1]; try rfl)) (gt rfl)
            | false =>
              have e0 := gf rfl
              simp (config := { maxSteps := 500000 }) only [↓vp, vv, implies_true, forall_const, undef, InI, ↓reduceIte, simprocAttr, c45_3, c45_2, c45_1, r45, PmF, hj', hjB, hjn, Int.toNat_natCast, hgA, hgB, w1, e0, Pu]
        · rw [List.drop_of_length_le (by omega)] at he
          have e0 : b = true := he.symm
          simp (config := { maxSteps := 500000 }) only [↓vp, vv, implies_true, forall_const, undef, InI, ↓reduceIte, simprocAttr, c45_3, c45_4, r45, PmF, Int.lt_irrefl, e0, Pu]
      · have a3' : (fckI n p != 0) = true := by simp [a3]
        have hnr : needR n p = ⟨[], []⟩ := if_neg a3
        have hr : prmI n l p = (false, fckI n p) := by unfold prmI; rw [if_pos a1, a2, if_pos rfl, if_neg a3]
        simp (config := { maxSteps := 500000 }) only [↓vp, vv, implies_true, forall_const, undef, InI, ↓reduceIte, simprocAttr, c45, r45, c45_1, c45_2, c45_3, c45_4, c45_5, c45_6, c45_7, r45, TLu1, selNet, selNP, selNL, Net.enc, Pln.enc, plnD, Lnp.enc, lnpD, hr, hnr, hn1, hp1, hl1, hz, hz1, a1, a2, a3', bne_self_eq_false, Pu]
  · have a1' : (checkI n != 0) = true := by simp [a1]
    have hr : prmI n l p = (false, checkI n) := by unfold prmI; rw [if_neg a1]
    simp (config := { maxSteps := 500000 }) only [↓vp, vv, implies_true, forall_const, undef, InI, ↓reduceIte, simprocAttr, c45, r45, c45_1, c45_2, c45_3, c45_4, c45_5, c45_6, c45_7, r45, TLu1, selNet, Net.enc, Pln.enc, plnD, Lnp.enc, lnpD, hr, hn1, hz1, a1', Pu]
end Go.Proofs.Ytfkhjkkhdfcnjaa
