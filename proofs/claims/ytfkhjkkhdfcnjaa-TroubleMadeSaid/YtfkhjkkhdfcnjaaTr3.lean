
/- Troubles: Next. -/
import Derived.Test.YtfkhjkkhdfcnjaaTr2
namespace Go.Proofs.Ytfkhjkkhdfcnjaa
open Go
set_option linter.unusedVariables false
set_option linter.unusedSimpArgs false
set_option maxRecDepth 100000

def nxK (t : Int) (b0 : Int × Bool) (x : Tro) (k : Nat) : Int × Bool := if k = 0 then b0 else if k = 1 then nxP t b0 x.fr else nxP t (nxP t b0 x.fr) x.to
def NxFr (l : List Tro) (t : Int) (j : Nat) (b : Int) (o : Bool) (k : Int) : List (Nat × D) := [(1, di t), (6, di b), (7, db o), (12, .sl (l.map Tro.row)), (13, di l.length), (14, di j), (27, .own (0, 27) 0 0 2), (28, di 2), (29, di k)]
def NxHp (x : Tro) : Hp := Hp.none.put (0, 27) ⟨0, 1, [[di x.fr], [di x.to]]⟩
def NxI (l : List Tro) (t : Int) (j : Nat) (x : Tro) (b0 : Int × Bool) (m : Nat) (s : St) : Prop := ∃ (k : Nat) (b : Int) (o : Bool), k + m = 2 ∧ (b, o) = nxK t b0 x k ∧ s = ⟨fr (NxFr l t j b o k), NxHp x⟩
theorem Nx_fin (l : List Tro) (t : Int) (j : Nat) (x : Tro) (b0 : Int × Bool) (m k : Nat) (hk : k + m = 2) (hk2 : k < 2) (F : Fr) (H : Hp) (b' : Int) (o' : Bool) (he : (b', o') = nxK t b0 x (k + 1)) (hH : H (0, 27) = some ⟨0, 1, [[di x.fr], [di x.to]]⟩) (f1 : F 1 = di t) (f6 : F 6 = di b') (f7 : F 7 = db o') (f12 : F 12 = .sl (l.map Tro.row)) (f13 : F 13 = di l.length) (f14 : F 14 = di j) (f27 : F 27 = .own (0, 27) 0 0 2) (f28 : F 28 = di 2) (f29 : F 29 = di ((k : Int) + 1)) :
    ∃ k' s', k' < m ∧ Weak [] ⟨F, H⟩ s' ∧ NxI l t j x b0 k' s' :=
  ⟨m - 1, _, by omega, weak_eq [] [(0, 27)] (NxFr l t j b' o' ((k + 1 : Nat) : Int)) (by rw [Int.natCast_succ]; simp (config := { maxSteps := 500000 }) only [↓vp, vv, implies_true, forall_const, undef, InI, ↓reduceIte, simprocAttr, coverS, NxFr, f1, f6, f7, f12, f13, f14, f27, f28, f29]) (by simp (config := { maxSteps := 500000 }) only [↓vp, vv, implies_true, forall_const, undef, InI, ↓reduceIte, simprocAttr, refsF, NxFr]) (by simp (config := { maxSteps := 500000 }) only [↓vp, vv, implies_true, forall_const, undef, InI, ↓reduceIte, simprocAttr, hH]) (by simp) (by simp (config := { maxSteps := 500000 }) only [↓vp, vv, implies_true, forall_const, undef, InI, ↓reduceIte, simprocAttr, hH]; try rfl), ⟨k + 1, b', o', by omega, he, rfl⟩⟩
theorem nxK0 (t : Int) (b0 : Int × Bool) (x : Tro) : nxK t b0 x 0 = b0 := rfl
theorem nxK1 (t : Int) (b0 : Int × Bool) (x : Tro) : nxK t b0 x 1 = nxP t b0 x.fr := rfl
theorem nxK2 (t : Int) (b0 : Int × Bool) (x : Tro) : nxK t b0 x 2 = nxP t (nxP t b0 x.fr) x.to := rfl
set_option maxHeartbeats 8000000 in
theorem Nx_r (l : List Tro) (t : Int) (j : Nat) (x : Tro) (b0 : Int × Bool) (m : Nat) (s : St) (Q : Ex → St → Prop) (h : NxI l t j x b0 m s) (hQ : ∀ b o, (b, o) = nxK t b0 x 2 → Q (.exit 2) ⟨putF (fr (NxFr l t j b o 2)) (some 30) (db false), NxHp x⟩) (hn : ∀ s, (∃ k' s', k' < m ∧ Weak [] s s' ∧ NxI l t j x b0 k' s') → Q .nrm s) :
    vc T0 (fun t => (0, t)) [] c72_3 Q s := by
  obtain ⟨k, b, o, hk, he, rfl⟩ := h
  match k, hk with
  | 0, hk =>
    rw [nxK0] at he
    subst he
    have e1 := nxK1 t (b, o) x
    by_cases h1 : t < x.fr
    · cases o with
      | false =>
        simp (config := { maxSteps := 500000 }) only [↓vp, vv, implies_true, forall_const, undef, InI, ↓reduceIte, simprocAttr, c72_3, c72_2, c72_1, NxFr, NxHp, h1]
        refine hn _ (Nx_fin l t j x _ m 0 hk (by omega) _ _ x.fr true (by rw [e1]; simp [nxP, h1]) ?_ ?_ ?_ ?_ ?_ ?_ ?_ ?_ ?_ ?_) <;> simp (config := { maxSteps := 500000 }) only [↓vp, vv, implies_true, forall_const, undef, InI, ↓reduceIte, simprocAttr, ]
        rfl
      | true =>
        by_cases h2 : x.fr < b
        · simp (config := { maxSteps := 500000 }) only [↓vp, vv, implies_true, forall_const, undef, InI, ↓reduceIte, simprocAttr, c72_3, c72_2, c72_1, NxFr, NxHp, h1, h2]
          refine hn _ (Nx_fin l t j x _ m 0 hk (by omega) _ _ x.fr true (by rw [e1]; simp [nxP, h1, h2]) ?_ ?_ ?_ ?_ ?_ ?_ ?_ ?_ ?_ ?_) <;> simp (config := { maxSteps := 500000 }) only [↓vp, vv, implies_true, forall_const, undef, InI, ↓reduceIte, simprocAttr, ]
          rfl
        · simp (config := { maxSteps := 500000 }) only [↓vp, vv, implies_true, forall_const, undef, InI, ↓reduceIte, simprocAttr, c72_3, c72_2, c72_1, NxFr, NxHp, h1, h2]
          refine hn _ (Nx_fin l t j x _ m 0 hk (by omega) _ _ b true (by rw [e1]; simp [nxP, h1, h2]) ?_ ?_ ?_ ?_ ?_ ?_ ?_ ?_ ?_ ?_) <;> simp (config := { maxSteps := 500000 }) only [↓vp, vv, implies_true, forall_const, undef, InI, ↓reduceIte, simprocAttr, ]
          rfl
    · simp (config := { maxSteps := 500000 }) only [↓vp, vv, implies_true, forall_const, undef, InI, ↓reduceIte, simprocAttr, c72_3, c72_2, c72_1, NxFr, NxHp, h1]
      refine hn _ (Nx_fin l t j x _ m 0 hk (by omega) _ _ b o (by rw [e1]; simp [nxP, h1]) ?_ ?_ ?_ ?_ ?_ ?_ ?_ ?_ ?_ ?_) <;> simp (config := { maxSteps := 500000 }) only [↓vp, vv, implies_true, forall_const, undef, InI, ↓reduceIte, simprocAttr, ]
      rfl
  | 1, hk =>
    have e1 := nxK2 t b0 x
    rw [nxK1] at he
    rw [← he] at e1
    by_cases h1 : t < x.to
    · cases o with
      | false =>
        simp (config := { maxSteps := 500000 }) only [↓vp, vv, implies_true, forall_const, undef, InI, ↓reduceIte, simprocAttr, c72_3, c72_2, c72_1, NxFr, NxHp, h1]
        refine hn _ (Nx_fin l t j x b0 m 1 hk (by omega) _ _ x.to true (by rw [e1]; simp [nxP, h1]) ?_ ?_ ?_ ?_ ?_ ?_ ?_ ?_ ?_ ?_) <;> simp (config := { maxSteps := 500000 }) only [↓vp, vv, implies_true, forall_const, undef, InI, ↓reduceIte, simprocAttr, ]
        rfl
      | true =>
        by_cases h2 : x.to < b
        · simp (config := { maxSteps := 500000 }) only [↓vp, vv, implies_true, forall_const, undef, InI, ↓reduceIte, simprocAttr, c72_3, c72_2, c72_1, NxFr, NxHp, h1, h2]
          refine hn _ (Nx_fin l t j x b0 m 1 hk (by omega) _ _ x.to true (by rw [e1]; simp [nxP, h1, h2]) ?_ ?_ ?_ ?_ ?_ ?_ ?_ ?_ ?_ ?_) <;> simp (config := { maxSteps := 500000 }) only [↓vp, vv, implies_true, forall_const, undef, InI, ↓reduceIte, simprocAttr, ]
          rfl
        · simp (config := { maxSteps := 500000 }) only [↓vp, vv, implies_true, forall_const, undef, InI, ↓reduceIte, simprocAttr, c72_3, c72_2, c72_1, NxFr, NxHp, h1, h2]
          refine hn _ (Nx_fin l t j x b0 m 1 hk (by omega) _ _ b true (by rw [e1]; simp [nxP, h1, h2]) ?_ ?_ ?_ ?_ ?_ ?_ ?_ ?_ ?_ ?_) <;> simp (config := { maxSteps := 500000 }) only [↓vp, vv, implies_true, forall_const, undef, InI, ↓reduceIte, simprocAttr, ]
          rfl
    · simp (config := { maxSteps := 500000 }) only [↓vp, vv, implies_true, forall_const, undef, InI, ↓reduceIte, simprocAttr, c72_3, c72_2, c72_1, NxFr, NxHp, h1]
      refine hn _ (Nx_fin l t j x b0 m 1 hk (by omega) _ _ b o (by rw [e1]; simp [nxP, h1]) ?_ ?_ ?_ ?_ ?_ ?_ ?_ ?_ ?_ ?_) <;> simp (config := { maxSteps := 500000 }) only [↓vp, vv, implies_true, forall_const, undef, InI, ↓reduceIte, simprocAttr, ]
      rfl
  | (n + 3), hk => exact absurd hk (by omega)
  | 2, hk =>
    simp (config := { maxSteps := 500000 }) only [↓vp, vv, implies_true, forall_const, undef, InI, ↓reduceIte, simprocAttr, c72_3, NxFr, NxHp]
    exact hQ b o he
def NxFo (l : List Tro) (t b : Int) (o : Bool) (j : Int) : List (Nat × D) := [(1, di t), (6, di b), (7, db o), (12, .sl (l.map Tro.row)), (13, di l.length), (14, di j)]
set_option maxHeartbeats 8000000 in
theorem Next_c (l : List Tro) (t : Int) (hl : l.length ≤ 1000000) (nn : Nm) : CallsA Try.prog 72 [.sl (l.map Tro.row), di t] Hp.none nn (Pu (.tup [di (trNext l t).1, db (trNext l t).2]) Hp.none) := by
  obtain ⟨code, h1, h2⟩ := c72_ok
  refine callsA_of (T0_ok _) mixed (N := fun t => (0, t)) Try.func72 h1 h2 r72_ok [] false js_nil js_nil' (by simp [Try.f72]) ?_
  simp (config := { maxSteps := 500000 }) only [↓vp, vv, implies_true, forall_const, undef, InI, ↓reduceIte, simprocAttr, c72]
  rw [vc_loop]
  refine ⟨fun m s => ∃ (j : Nat) (b : Int) (o : Bool), j + m = l.length ∧ (l.drop j).foldl (nxS t) (b, o) = trNext l t ∧ s = ⟨fr (NxFo l t b o j), Hp.none⟩,
    ⟨l.length, _, (weak_eq [] [] (NxFo l t 0 false 0) (by simp (config := { maxSteps := 500000 }) only [↓vp, vv, implies_true, forall_const, undef, InI, ↓reduceIte, simprocAttr, coverS, NxFo]) (by simp (config := { maxSteps := 500000 }) only [↓vp, vv, implies_true, forall_const, undef, InI, ↓reduceIte, simprocAttr, refsF, NxFo]) (by simp (config := { maxSteps := 500000 }) only [↓vp, vv, implies_true, forall_const, undef, InI, ↓reduceIte, simprocAttr, ]) (by simp) (by simp (config := { maxSteps := 500000 }) only [↓vp, vv, implies_true, forall_const, undef, InI, ↓reduceIte, simprocAttr, ]; try rfl)), ⟨0, 0, false, by omega, rfl, rfl⟩⟩, ?_⟩
  rintro m s ⟨j, b, o, hj, he, rfl⟩
  by_cases hlt : j < l.length
  · have hlt' : (j : Int) < l.length := by omega
    have h0 : (0 : Int) ≤ j := by omega
    have hg := getD_map Tro.row l j hlt
    rw [drop_at hlt] at he
    generalize l[j] = x at hg he
    have w1 : IntKind.i64.wrap ((j : Int) + 1) = ((j + 1 : Nat) : Int) := by rw [wrap_i (by omega)]; rfl
    rw [List.foldl_cons] at he
    have fin : ∀ (F : Fr) (H : Hp) (b' : Int) (o' : Bool), nxS t (b, o) x = (b', o') → F 1 = di t → F 6 = di b' → F 7 = db o' → F 12 = .sl (l.map Tro.row) → F 13 = di l.length → F 14 = di (j + 1 : Nat) → ∃ k' s', k' < m ∧ Weak [] ⟨F, H⟩ s' ∧ ∃ (j : Nat) (b : Int) (o : Bool), j + k' = l.length ∧ (l.drop j).foldl (nxS t) (b, o) = trNext l t ∧ s' = ⟨fr (NxFo l t b o j), Hp.none⟩ := fun F H b' o' ha f1 f6 f7 f12 f13 f14 =>
      ⟨m - 1, _, by omega, weak_eq [] [] (NxFo l t b' o' ((j + 1 : Nat) : Int)) (by simp (config := { maxSteps := 500000 }) only [↓vp, vv, implies_true, forall_const, undef, InI, ↓reduceIte, simprocAttr, coverS, NxFo, f1, f6, f7, f12, f13, f14]) (by simp (config := { maxSteps := 500000 }) only [↓vp, vv, implies_true, forall_const, undef, InI, ↓reduceIte, simprocAttr, refsF, NxFo]) (by simp (config := { maxSteps := 500000 }) only [↓vp, vv, implies_true, forall_const, undef, InI, ↓reduceIte, simprocAttr, ]) (by simp) (by simp (config := { maxSteps := 500000 }) only [↓vp, vv, implies_true, forall_const, undef, InI, ↓reduceIte, simprocAttr, ]; try rfl), ⟨j + 1, b', o', by omega, by rw [← ha]; exact he, rfl⟩⟩
    by_cases hz : x.to ≤ x.fr
    · simp (config := { maxSteps := 500000 }) only [↓vp, vv, implies_true, forall_const, undef, InI, ↓reduceIte, simprocAttr, c72, r72, c72_1, c72_2, c72_3, c72_4, c72_5, c72_6, c72_7, c72_8, NxFo, hlt', h0, Int.toNat_natCast, hg, Tro.row, hz, w1]
      refine fin _ _ b o (by simp [nxS, hz]) ?_ ?_ ?_ ?_ ?_ ?_ <;> simp (config := { maxSteps := 500000 }) only [↓vp, vv, implies_true, forall_const, undef, InI, ↓reduceIte, simprocAttr, w1]
    · simp (config := { maxSteps := 500000 }) only [↓vp, vv, implies_true, forall_const, undef, InI, ↓reduceIte, simprocAttr, c72_7, c72_6, c72_5, c72_4, NxFo, hlt', h0, Int.toNat_natCast, hg, Tro.row, hz, w1]
      rw [vc_loop]
      refine ⟨NxI l t j x (b, o), ⟨2, _, (weak_eq [] [(0, 27)] (NxFr l t j b o 0) (by simp (config := { maxSteps := 500000 }) only [↓vp, vv, implies_true, forall_const, undef, InI, ↓reduceIte, simprocAttr, coverS, NxFr]) (by simp (config := { maxSteps := 500000 }) only [↓vp, vv, implies_true, forall_const, undef, InI, ↓reduceIte, simprocAttr, refsF, NxFr]) (by simp (config := { maxSteps := 500000 }) only [↓vp, vv, implies_true, forall_const, undef, InI, ↓reduceIte, simprocAttr, ]) (by simp) (by simp (config := { maxSteps := 500000 }) only [↓vp, vv, implies_true, forall_const, undef, InI, ↓reduceIte, simprocAttr, ]; try rfl)), ⟨0, b, o, rfl, rfl, rfl⟩⟩, fun m' s' h' => Nx_r l t j x (b, o) m' s' _ h' ?_ fun s h => h⟩
      intro b' o' hbo
      simp (config := { maxSteps := 500000 }) only [↓vp, vv, implies_true, forall_const, undef, InI, ↓reduceIte, simprocAttr, NxFr, NxHp]
      refine fin _ _ b' o' (by rw [hbo, nxK2]; simp [nxS, hz]) ?_ ?_ ?_ ?_ ?_ ?_ <;> simp (config := { maxSteps := 500000 }) only [↓vp, vv, implies_true, forall_const, undef, InI, ↓reduceIte, simprocAttr, w1]
  · have hlt' : ¬ (j : Int) < l.length := by omega
    rw [List.drop_of_length_le (by omega)] at he
    have he2 : (b, o) = trNext l t := he
    have e3 : b = (trNext l t).1 := by rw [← he2]
    have e4 : o = (trNext l t).2 := by rw [← he2]
    simp (config := { maxSteps := 500000 }) only [↓vp, vv, implies_true, forall_const, undef, InI, ↓reduceIte, simprocAttr, c72, r72, c72_1, c72_2, c72_3, c72_4, c72_5, c72_6, c72_7, c72_8, NxFo, hlt', e3, e4, Pu]
end Go.Proofs.Ytfkhjkkhdfcnjaa
