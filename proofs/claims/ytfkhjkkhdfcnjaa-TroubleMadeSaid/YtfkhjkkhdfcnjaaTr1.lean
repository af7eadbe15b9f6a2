
/- Troubles: what they are, and the functions that look at a list of them. -/
import Derived.Test.YtfkhjkkhdfcnjaaGF
import Derived.Test.YtfkhjkkhdfcnjaaGen5
import Derived.Test.YtfkhjkkhdfcnjaaCodeT
namespace Go.Proofs.Ytfkhjkkhdfcnjaa
open Go
set_option linter.unusedVariables false
set_option linter.unusedSimpArgs false
set_option maxRecDepth 100000

structure Tro where
  kind : Int
  index : Int
  value : Int
  fr : Int
  to : Int
def Tro.row (t : Tro) : List D := [di t.kind, di t.index, di t.value, di t.fr, di t.to]
theorem Tro.done (t : Tro) : doneL t.row = true := rfl
def thereB (x : Tro) (t : Int) : Bool := if decide (x.fr ≤ t) = true then decide (t < x.to) else false
def isB (k i t : Int) (x : Tro) : Bool := if (x.kind == k) = true then (if (x.index == i) = true then thereB x t else false) else false
def sumS (k i t : Int) (a : Int) (x : Tro) : Int := if isB k i t x = true then IntKind.i64.wrap (a + x.value) else a
def trSum (l : List Tro) (k i t : Int) : Int := l.foldl (sumS k i t) 0
def trHas (l : List Tro) (k i t : Int) : Bool := l.any (isB k i t)
def nxP (t : Int) (b : Int × Bool) (n : Int) : Int × Bool := if t < n then (if b.2 = true then (if n < b.1 then (n, true) else b) else (n, true)) else b
def nxS (t : Int) (b : Int × Bool) (x : Tro) : Int × Bool := if x.to ≤ x.fr then b else nxP t (nxP t b x.fr) x.to
def trNext (l : List Tro) (t : Int) : Int × Bool := l.foldl (nxS t) (0, false)
def troOf : List (List D) → Option (List Tro)
  | [] => some []
  | [.v (.int .i64 a), .v (.int .i64 b), .v (.int .i64 c), .v (.int .i64 d), .v (.int .i64 e)] :: l => match troOf l with
    | some ts => some (⟨a, b, c, d, e⟩ :: ts)
    | Option.none => Option.none
  | _ => Option.none
theorem troOf_map : ∀ (l : List Tro), troOf (l.map Tro.row) = some l
  | [] => rfl
  | t :: l => by
    show troOf (t.row :: l.map Tro.row) = _
    rw [Tro.row, troOf, troOf_map l]
theorem troOf_eq : ∀ {l : List (List D)} {ts : List Tro}, troOf l = some ts → l = ts.map Tro.row
  | [], ts, h => by rw [troOf] at h; cases h; rfl
  | r :: l, ts, h => by
    unfold troOf at h
    split at h
    · rename_i heq; cases heq
    · rename_i heq
      cases heq
      split at h
      · rename_i hm; cases h; rw [troOf_eq hm]; rfl
      · cases h
    · cases h
theorem drop_at {α : Type} {l : List α} {k : Nat} (h : k < l.length) : l.drop k = l[k] :: l.drop (k + 1) := List.drop_eq_getElem_cons h
set_option maxHeartbeats 4000000 in
theorem there_c (x : Tro) (t : Int) (nn : Nm) : CallsA Try.prog 160 [.agg x.row, di t] Hp.none nn (Pu (db (thereB x t)) Hp.none) := by
  obtain ⟨code, h1, h2⟩ := c160_ok
  refine callsA_of (T0_ok _) mixed (N := fun t => (0, t)) Try.func160 h1 h2 r160_ok [] false js_nil js_nil' (by simp [Try.f160]) ?_
  cases hb : decide (x.fr ≤ t) <;> simp (config := { maxSteps := 500000 }) only [↓vp, vv, implies_true, forall_const, undef, InI, ↓reduceIte, simprocAttr, c160, r160, Tro.row, hb, thereB, Pu]
def selThere : List D → Option (Prop × D)
  | [.agg r, .v (.int .i64 t)] => match troOf [r] with
    | some [x] => some (True, db (thereB x t))
    | _ => Option.none
  | _ => Option.none
def TT0 : Tbl := tc 160 (rowPu selThere) T0
theorem TT0_ok : TblOk Try.prog TT0 := by
  refine tc_pu f160_ok (fun args pre d h hp nn => ?_) (T0_ok _)
  unfold selThere at h
  split at h
  · split at h
    · rename_i x hx
      cases h
      have e := troOf_eq hx
      cases e
      exact there_c x _ nn
    · cases h
  · cases h
theorem troOf_one (x : Tro) : troOf [[.v (.int .i64 x.kind), .v (.int .i64 x.index), .v (.int .i64 x.value), .v (.int .i64 x.fr), .v (.int .i64 x.to)]] = some [x] := rfl
set_option maxHeartbeats 4000000 in
theorem sum_c (l : List Tro) (k i t : Int) (hl : l.length ≤ 1000000) (nn : Nm) : CallsA Try.prog 135 [.sl (l.map Tro.row), di k, di i, di t] Hp.none nn (Pu (di (trSum l k i t)) Hp.none) := by
  obtain ⟨code, h1, h2⟩ := c135_ok
  refine callsA_of TT0_ok mixed (N := fun t => (0, t)) Try.func135 h1 h2 r135_ok [] false js_nil js_nil' (by simp [Try.f135]) ?_
  simp (config := { maxSteps := 500000 }) only [↓vp, vv, implies_true, forall_const, undef, InI, ↓reduceIte, simprocAttr, c135]
  rw [vc_loop]
  refine ⟨fun m s => ∃ (j : Nat) (a : Int), j + m = l.length ∧ (l.drop j).foldl (sumS k i t) a = trSum l k i t ∧ s = ⟨fr [(1, di k), (2, di i), (3, di t), (9, di a), (12, .sl (l.map Tro.row)), (13, di l.length), (14, di j)], Hp.none⟩,
    ⟨l.length, _, (weak_eq [] [] [(1, di k), (2, di i), (3, di t), (9, di 0), (12, .sl (l.map Tro.row)), (13, di l.length), (14, di 0)] (by simp (config := { maxSteps := 500000 }) only [↓vp, vv, implies_true, forall_const, undef, InI, ↓reduceIte, simprocAttr, coverS]) (by simp (config := { maxSteps := 500000 }) only [↓vp, vv, implies_true, forall_const, undef, InI, ↓reduceIte, simprocAttr, refsF]) (by simp (config := { maxSteps := 500000 }) only [↓vp, vv, implies_true, forall_const, undef, InI, ↓reduceIte, simprocAttr, ]) (by simp) (by simp (config := { maxSteps := 500000 }) only [↓vp, vv, implies_true, forall_const, undef, InI, ↓reduceIte, simprocAttr, ]; try rfl)), ⟨0, 0, by omega, rfl, rfl⟩⟩, ?_⟩
  rintro m s ⟨j, a, hj, he, rfl⟩
  by_cases hlt : j < l.length
  · have hlt' : (j : Int) < l.length := by omega
    have h0 : (0 : Int) ≤ j := by omega
    have hg := getD_map Tro.row l j hlt
    rw [drop_at hlt] at he
    generalize l[j] = x at hg he
    have w1 : IntKind.i64.wrap ((j : Int) + 1) = ((j + 1 : Nat) : Int) := by rw [wrap_i (by omega)]; rfl
    rw [List.foldl_cons] at he
    have fin : ∀ (F : Fr) (H : Hp) (a' : Int), sumS k i t a x = a' → F 1 = di k → F 2 = di i → F 3 = di t → F 9 = di a' → F 12 = .sl (l.map Tro.row) → F 13 = di l.length → F 14 = di (j + 1 : Nat) → ∃ k' s', k' < m ∧ Weak [] ⟨F, H⟩ s' ∧ ∃ (j : Nat) (a : Int), j + k' = l.length ∧ (l.drop j).foldl (sumS k i t) a = trSum l k i t ∧ s' = ⟨fr [(1, di k), (2, di i), (3, di t), (9, di a), (12, .sl (l.map Tro.row)), (13, di l.length), (14, di j)], Hp.none⟩ := fun F H a' ha f1 f2 f3 f9 f12 f13 f14 =>
      ⟨m - 1, _, by omega, weak_eq [] [] [(1, di k), (2, di i), (3, di t), (9, di a'), (12, .sl (l.map Tro.row)), (13, di l.length), (14, di (j + 1 : Nat))] (by simp (config := { maxSteps := 500000 }) only [↓vp, vv, implies_true, forall_const, undef, InI, ↓reduceIte, simprocAttr, coverS, f1, f2, f3, f9, f12, f13, f14]) (by simp (config := { maxSteps := 500000 }) only [↓vp, vv, implies_true, forall_const, undef, InI, ↓reduceIte, simprocAttr, refsF]) (by simp (config := { maxSteps := 500000 }) only [↓vp, vv, implies_true, forall_const, undef, InI, ↓reduceIte, simprocAttr, ]) (by simp) (by simp (config := { maxSteps := 500000 }) only [↓vp, vv, implies_true, forall_const, undef, InI, ↓reduceIte, simprocAttr, ]; try rfl), ⟨j + 1, a', by omega, by rw [← ha]; exact he, rfl⟩⟩
    have st : sumS k i t a x = if isB k i t x = true then IntKind.i64.wrap (a + x.value) else a := rfl
    cases hk : x.kind == k with
    | false =>
      have hb : isB k i t x = false := by simp [isB, hk]
      rw [hb] at st
      simp (config := { maxSteps := 500000 }) only [↓vp, vv, implies_true, forall_const, undef, InI, ↓reduceIte, simprocAttr, c135, r135, c135_1, c135_2, c135_3, c135_4, TT0, selThere, hlt', h0, Int.toNat_natCast, hg, Tro.row, hk, troOf_one, w1]
      refine fin _ _ a st ?_ ?_ ?_ ?_ ?_ ?_ ?_ <;> simp (config := { maxSteps := 500000 }) only [↓vp, vv, implies_true, forall_const, undef, InI, ↓reduceIte, simprocAttr, w1]
    | true =>
      cases hi : x.index == i with
      | false =>
        have hb : isB k i t x = false := by simp [isB, hi]
        rw [hb] at st
        simp (config := { maxSteps := 500000 }) only [↓vp, vv, implies_true, forall_const, undef, InI, ↓reduceIte, simprocAttr, c135, r135, c135_1, c135_2, c135_3, c135_4, TT0, selThere, hlt', h0, Int.toNat_natCast, hg, Tro.row, hk, hi, troOf_one, w1]
        refine fin _ _ a st ?_ ?_ ?_ ?_ ?_ ?_ ?_ <;> simp (config := { maxSteps := 500000 }) only [↓vp, vv, implies_true, forall_const, undef, InI, ↓reduceIte, simprocAttr, w1]
      | true =>
        have hb : isB k i t x = thereB x t := by simp [isB, hk, hi]
        rw [hb] at st
        cases ht : thereB x t with
        | false =>
          rw [ht] at st
          simp (config := { maxSteps := 500000 }) only [↓vp, vv, implies_true, forall_const, undef, InI, ↓reduceIte, simprocAttr, c135, r135, c135_1, c135_2, c135_3, c135_4, TT0, selThere, hlt', h0, Int.toNat_natCast, hg, Tro.row, hk, hi, ht, troOf_one, w1]
          refine fin _ _ a st ?_ ?_ ?_ ?_ ?_ ?_ ?_ <;> simp (config := { maxSteps := 500000 }) only [↓vp, vv, implies_true, forall_const, undef, InI, ↓reduceIte, simprocAttr, w1]
        | true =>
          rw [ht] at st
          simp (config := { maxSteps := 500000 }) only [↓vp, vv, implies_true, forall_const, undef, InI, ↓reduceIte, simprocAttr, c135, r135, c135_1, c135_2, c135_3, c135_4, TT0, selThere, hlt', h0, Int.toNat_natCast, hg, Tro.row, hk, hi, ht, troOf_one, w1]
          refine fin _ _ _ st ?_ ?_ ?_ ?_ ?_ ?_ ?_ <;> simp (config := { maxSteps := 500000 }) only [↓vp, vv, implies_true, forall_const, undef, InI, ↓reduceIte, simprocAttr, w1]
  · have hlt' : ¬ (j : Int) < l.length := by omega
    rw [List.drop_of_length_le (by omega)] at he
    have he2 : a = trSum l k i t := he
    simp (config := { maxSteps := 500000 }) only [↓vp, vv, implies_true, forall_const, undef, InI, ↓reduceIte, simprocAttr, c135, r135, c135_1, c135_2, c135_3, c135_4, hlt', he2, Pu]
end Go.Proofs.Ytfkhjkkhdfcnjaa
