
/- Networks: names that are there twice, indices that are known. -/
import Derived.Test.YtkjibmfggeibjaaNk2
namespace Go.Proofs.Ytkjibmfggeibjaa
open Go
set_option linter.unusedVariables false
set_option linter.unusedSimpArgs false
set_option maxRecDepth 100000

def eqS (x y : ByteArray) : Bool := x.toList == y.toList
theorem eqS_self (x : ByteArray) : eqS x x = true := by simp [eqS]
/-- The first index at which something has a property. -/
def idxA {α : Type} (q : α → Bool) : Int → List α → Int
  | _, [] => -1
  | k, r :: l => if q r = true then k else idxA q (k + 1) l
theorem idxA_lt {α : Type} (q : α → Bool) : ∀ (l : List α) (k : Int) (i : Nat) (h : i < l.length), 0 ≤ k → q l[i] = true → (idxA q k l < k + i ↔ (l.take i).any q = true)
  | r :: l, k, 0, h, hk, hq => by
    simp at hq
    simp [idxA, hq]
  | r :: l, k, i + 1, h, hk, hq => by
    rw [idxA, List.take_succ_cons, List.any_cons]
    cases hr : q r with
    | true => simp; omega
    | false =>
      have := idxA_lt q l (k + 1) i (by simpa using h) (by omega) (by simpa using hq)
      rw [show k + 1 + (i : Int) = k + (i + 1 : Nat) by omega] at this
      simpa using this
theorem idxA_drop {α : Type} (q : α → Bool) (l : List α) (k : Nat) (h : k < l.length) : idxA q k (l.drop k) = if q l[k] = true then (k : Int) else idxA q (k + 1 : Nat) (l.drop (k + 1)) := by
  rw [List.drop_eq_getElem_cons h]
  rfl
set_option maxHeartbeats 4000000 in
theorem index_c (l : List ByteArray) (v : ByteArray) (hl : l.length ≤ 1000000) (nn : Nm) : CallsA Try.prog 182 [.sl (l.map nmRow), ds v] Hp.none nn (Pu (di (idxA (eqS v) 0 l)) Hp.none) := by
  obtain ⟨code, h1, h2⟩ := c182_ok
  refine callsA_of (T0_ok _) mixed (N := fun t => (0, t)) Try.func182 h1 h2 r182_ok [] false js_nil js_nil' (by simp [Try.f182]) ?_
  generalize hb : idxA (eqS v) 0 l = b
  simp (config := { maxSteps := 500000 }) only [↓vp, vv, implies_true, forall_const, undef, InI, ↓reduceIte, simprocAttr, c182]
  refine rng_loop l.length (fun j => ⟨fr [(0, .sl (l.map nmRow)), (1, ds v), (7, di l.length), (8, di j)], Hp.none⟩) (fun j => idxA (eqS v) j (l.drop j) = b) (weak0 (by simp (config := { maxSteps := 500000 }) only [↓vp, vv, implies_true, forall_const, undef, InI, ↓reduceIte, simprocAttr, coverS]) (by simp (config := { maxSteps := 500000 }) only [↓vp, vv, implies_true, forall_const, undef, InI, ↓reduceIte, simprocAttr, refsF])) hb (fun j hj he => ?_) (fun he => ?_)
  · have hj' : (j : Int) < l.length := by omega
    have hn := idx_nn j
    have w1 := idx_next (j := j) (by omega)
    have hg := getD_map nmRow l j hj
    rw [idxA_drop _ _ _ hj] at he
    generalize l[j] = x at hg he
    cases hq : eqS v x with
    | true =>
      have hq' : (v.toList == x.toList) = true := hq
      rw [hq, if_pos rfl] at he
      subst he
      simp (config := { maxSteps := 500000 }) only [↓vp, vv, implies_true, forall_const, undef, InI, ↓reduceIte, simprocAttr, c182, r182, c182_1, c182_2, c182_3, c182_4, hj', hn, Int.toNat_natCast, hg, nmRow, hq', Pu]
    | false =>
      have hq' : (v.toList == x.toList) = false := hq
      rw [hq, if_neg (by simp)] at he
      simp (config := { maxSteps := 500000 }) only [↓vp, vv, implies_true, forall_const, undef, InI, ↓reduceIte, simprocAttr, c182, r182, c182_1, c182_2, c182_3, c182_4, hj', hn, Int.toNat_natCast, hg, nmRow, hq', w1]
      exact rng_next hj (weak0 (by simp (config := { maxSteps := 500000 }) only [↓vp, vv, implies_true, forall_const, undef, InI, ↓reduceIte, simprocAttr, coverS, nmRow, w1]) (by simp (config := { maxSteps := 500000 }) only [↓vp, vv, implies_true, forall_const, undef, InI, ↓reduceIte, simprocAttr, refsF])) he
  · rw [List.drop_of_length_le (Nat.le_refl _)] at he
    have he : (-1 : Int) = b := he
    subst he
    simp (config := { maxSteps := 500000 }) only [↓vp, vv, implies_true, forall_const, undef, InI, ↓reduceIte, simprocAttr, c182, r182, c182_1, c182_2, c182_3, c182_4, Int.lt_irrefl, Pu]
theorem drop_any {α : Type} {p : α → Bool} {l : List α} {j : Nat} {b : Bool} (hj : j < l.length) (he : (l.drop j).any p = b) : (p l[j] = true → b = true) ∧ (p l[j] = false → (l.drop (j + 1)).any p = b) := by
  rw [List.drop_eq_getElem_cons hj, List.any_cons] at he
  exact ⟨fun h => by rw [h] at he; simpa using he.symm, fun h => by rw [h] at he; simpa using he⟩
theorem drop_any_end {α : Type} {p : α → Bool} {l : List α} {n : Nat} {b : Bool} (hn : n = l.length) (he : (l.drop n).any p = b) : b = false := by
  subst hn
  rw [List.drop_of_length_le (Nat.le_refl _)] at he
  exact he.symm
/-- At this index something stands that stood before. -/
def dupAt {α : Type} (q : α → α → Bool) (l : List α) (i : Nat) : Bool := match l[i]? with
  | some x => (l.take i).any (q x)
  | Option.none => false
def dupB {α : Type} (q : α → α → Bool) (l : List α) : Bool := (List.range l.length).any (dupAt q l)
def nms4 (n : Net) : List (List ByteArray) := [n.nodes, n.segs.map (·.name), n.ports.map (·.name), n.sts.map (·.name)]
def eqN (x y : Stn) : Bool := y.node == x.node
def twB (n : Net) : Bool := if (nms4 n).any (dupB eqS) = true then true else dupB eqN n.sts
def selIdx : List D → Option (Prop × D)
  | [.sl rows, .v (.string v)] => match lsOf nmOf1 rows with
    | some l => some (l.length ≤ 1000000, di (idxA (eqS v) 0 l))
    | Option.none => Option.none
  | _ => Option.none
theorem tw1_c (x s : Stn) (nn : Nm) : CallsA Try.prog 184 [.agg x.row, .ip s.row] Hp.none nn (Pu (db (eqN s x)) Hp.none) := by
  obtain ⟨code, h1, h2⟩ := c184_ok
  refine callsA_of (T0_ok _) mixed (N := fun t => (0, t)) Try.func184 h1 h2 r184_ok [] false js_nil js_nil' (by simp [Try.f184]) ?_
  simp (config := { maxSteps := 500000 }) only [↓vp, vv, implies_true, forall_const, undef, InI, ↓reduceIte, simprocAttr, c184, r184, Stn.row, eqN, Pu]
def qTw (g : FuncId) (l : List (List D)) (d : D) : Bool :=
  match l with
  | [r] => match stnOf1 r with
    | some s => qRow stnOf1 (eqN s) d
    | Option.none => false
  | _ => false
theorem idxOf_map {α : Type} (g : α → List D) (q : List D → Bool) (q' : α → Bool) (h : ∀ x, q (g x) = q' x) : ∀ (l : List α) (k : Int), idxOf q k (l.map g) = idxA q' k l
  | [], _ => rfl
  | x :: l, k => by rw [List.map_cons, idxOf, idxA, h x, idxOf_map g q q' h l]
def TW (P : Program) : Tbl := tc 142 (rowPu (selNet nmsD)) (tc 182 (rowPu selIdx) (tc 183 (rowPu (selQ P true 5 qTw outI)) T0))
theorem TW_ok : TblOk Try.prog (TW Try.prog) := by
  refine tc_netf f142_ok (fun n hz nn => pnames_c n hz.segs hz.ports hz.sts nn) (tc_pu f182_ok (fun args pre d h hp nn => ?_) (tc_pu f183_ok (fun args pre d h hp nn => ?_) (T0_ok _)))
  · unfold selIdx at h
    split at h
    · split at h
      · rename_i hm; cases h; rw [lsOf_eq (fun r x => nmOf1_eq) hm]; exact index_c _ _ hp nn
      · cases h
    · cases h
  · unfold selQ at h
    split at h
    · split at h
      · rename_i hi
        cases h
        rw [ipsOf_eq hi]
        exact idxF_N _ _ _ _ hp nn
      · cases h
    · cases h
end Go.Proofs.Ytkjibmfggeibjaa
