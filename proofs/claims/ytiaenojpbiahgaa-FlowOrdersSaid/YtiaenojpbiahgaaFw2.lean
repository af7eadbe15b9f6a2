
/- Flow: the sums at the nodes. -/
import Derived.Test.YtiaenojpbiahgaaFw1
namespace Go.Proofs.Ytiaenojpbiahgaa
open Go
set_option linter.unusedVariables false
set_option linter.unusedSimpArgs false
set_option maxRecDepth 100000

def idsOf : List D → Option (List Int)
  | [] => some []
  | .v (.int .i64 n) :: l => match idsOf l with
    | some ns => some (n :: ns)
    | Option.none => Option.none
  | _ => Option.none
theorem idsOf_map : ∀ (M : List Int), idsOf (M.map di) = some M
  | [] => rfl
  | n :: M => by rw [List.map_cons, idsOf, idsOf_map M]
theorem idsOf_eq : ∀ {l : List D} {M : List Int}, idsOf l = some M → l = M.map di
  | [], M, h => by rw [idsOf] at h; cases h; rfl
  | d :: l, M, h => by
    unfold idsOf at h
    split at h
    · rename_i heq; cases heq
    · rename_i heq
      cases heq
      split at h
      · rename_i hm; cases h; rw [idsOf_eq hm]; rfl
      · cases h
    · cases h
def AddPre (M : List Int) (f t r : Int) : Prop := M.length = 48 ∧ (∀ k, k < 48 → -1000000000 ≤ M.getD k 0 ∧ M.getD k 0 ≤ 1000000000) ∧ (-1 ≤ f ∧ f < 24) ∧ (-1 ≤ t ∧ t < 24) ∧ -1000000 ≤ r ∧ r ≤ 1000000
def rowAdd : List D → Hp → Nm → Option (Prop × (D → Hp → Prop)) := fun args Hs nn =>
  match args with
  | [.ptr i g r c, .v (.int .i64 a), .v (.int .i64 b), .v (.int .i64 k)] => match Hs i with
    | some ⟨_, _, [row]⟩ => match idsOf row with
      | some M => some ((Hs = Hp.none.put i ⟨0, 48, [M.map di]⟩ ∧ g = 0 ∧ r = 0 ∧ c = 0) ∧ AddPre M a b k, Pu (.tup []) (Hp.none.put i ⟨0, 48, [(addF M a b k).map di]⟩))
      | Option.none => Option.none
    | _ => Option.none
  | _ => Option.none
theorem tc_add {T : Tbl} (hT : TblOk Try.prog T) : TblOk Try.prog (tc 94 rowAdd T) :=
  tc_row f94_ok (fun args Hs nn pre R hr hp => by
    unfold rowAdd at hr
    split at hr
    · split at hr
      · split at hr
        · cases hr
          obtain ⟨⟨rfl, rfl, rfl, rfl⟩, h1, h2, h3, h4, h5⟩ := hp
          exact ⟨⟨_, _, rfl, rfl⟩, add_c _ _ _ _ _ h1 h2 h3 h4 h5 nn⟩
        · cases hr
      · cases hr
    · cases hr) hT
structure FlOk (n : Net) (p : Pln) : Prop where
  sl : n.segs.length ≤ 32
  ql : n.ports.length ≤ 24
  rl : p.rates.length = n.segs.length
  pl : p.ports.length = n.ports.length
  fl : ∀ t ∈ flowsOf n p, FlIn t
def zeros : List D := [di 0, di 0, di 0, di 0, di 0, di 0, di 0, di 0, di 0, di 0, di 0, di 0, di 0, di 0, di 0, di 0, di 0, di 0, di 0, di 0, di 0, di 0, di 0, di 0, di 0, di 0, di 0, di 0, di 0, di 0, di 0, di 0, di 0, di 0, di 0, di 0, di 0, di 0, di 0, di 0, di 0, di 0, di 0, di 0, di 0, di 0, di 0, di 0]
theorem zeros_eq : zeros = (amtM []).map di := rfl
theorem put_all {row ds : List D} (h : ds.length = row.length) : put1 row 0 ds = ds := by
  rw [put1_eq row 0 ds (by omega), List.take_zero, List.drop_of_length_le (by omega)]
  simp
def HS (n : Net) (p : Pln) (T : List Fl) : Hp := (((Hp.none.put (0, 5) ⟨0, 48, [(amtM T).map di]⟩).put (0, 4) ⟨0, 48, [zeros]⟩).put (0, 3) ⟨0, 3, [plnD p]⟩).put (0, 2) ⟨0, 6, [netD n]⟩
def HS2 (p : Pln) (T : List Fl) : Hp := ((Hp.none.put (0, 5) ⟨0, 48, [(amtM T).map di]⟩).put (0, 4) ⟨0, 48, [zeros]⟩).put (0, 3) ⟨0, 3, [plnD p]⟩
theorem zip_take {α β γ : Type} (f : α → β → γ) : ∀ {l : List α} {m : List β} {j : Nat} (h1 : j < l.length) (h2 : j < m.length), List.zipWith f (l.take (j + 1)) (m.take (j + 1)) = List.zipWith f (l.take j) (m.take j) ++ [f l[j] m[j]]
  | x :: l, y :: m, 0, _, _ => by simp
  | x :: l, y :: m, j + 1, h1, h2 => by
    have := zip_take f (l := l) (m := m) (j := j) (by simpa using h1) (by simpa using h2)
    simp only [List.take_succ_cons, List.zipWith_cons_cons, this, List.cons_append, List.getElem_cons_succ]
theorem zip_mem {α β γ : Type} (f : α → β → γ) : ∀ {l : List α} {m : List β} {j : Nat} (h1 : j < l.length) (h2 : j < m.length), f l[j] m[j] ∈ List.zipWith f l m
  | x :: l, y :: m, 0, _, _ => by simp
  | x :: l, y :: m, j + 1, h1, h2 => by
    simp only [List.getElem_cons_succ, List.zipWith_cons_cons]
    exact List.mem_cons_of_mem _ (zip_mem f (by simpa using h1) (by simpa using h2))
theorem zip_sub {α β γ : Type} (f : α → β → γ) : ∀ (l : List α) (m : List β) (j : Nat) (x : γ), x ∈ List.zipWith f (l.take j) (m.take j) → x ∈ List.zipWith f l m
  | [], m, j, x, h => by simp at h
  | a :: l, [], j, x, h => by simp at h
  | a :: l, b :: m, 0, x, h => by simp at h
  | a :: l, b :: m, j + 1, x, h => by
    simp only [List.take_succ_cons, List.zipWith_cons_cons, List.mem_cons] at h ⊢
    exact h.imp id (zip_sub f l m j x)
theorem iRow_at (R : List Int) (j : Nat) (h : j < R.length) : (R.map iRow).getD j [] = [di R[j]] := by rw [getD_map iRow R j h]; rfl
set_option maxHeartbeats 16000000 in
theorem sums_c (n : Net) (p : Pln) (hF : FlOk n p) (nn : Nm) : CallsA Try.prog 70 [n.enc, p.enc] Hp.none nn (Pu (.agg ((amtM (flowsOf n p)).map di)) Hp.none) := by
  obtain ⟨code, h1, h2⟩ := c70_ok
  refine callsA_of (tc_add (T0_ok _)) mixed (N := fun t => (0, t)) Try.func70 h1 h2 r70_ok [] false js_nil js_nil' (by simp [Try.f70]) ?_
  obtain ⟨s1, s2, s3, s4, s5⟩ := hF
  have bound : ∀ T, T.length ≤ 100 → (∀ t ∈ T, FlIn t) → ∀ k, k < 48 → -1000000000 ≤ (amtM T).getD k 0 ∧ (amtM T).getD k 0 ≤ 1000000000 := fun T hl h k hk => by
    have := amtM_bd T (by omega) h k hk
    omega
  simp (config := { maxSteps := 500000 }) only [↓vp, vv, implies_true, forall_const, undef, InI, ↓reduceIte, simprocAttr, c70, Net.enc, Pln.enc, plnD]
  refine rng_loop n.segs.length (fun j => ⟨fr [(2, .ptr (0, 2) 0 0 0), (3, .ptr (0, 3) 0 0 0), (4, .ptr (0, 4) 0 0 0), (5, .ptr (0, 5) 0 0 0), (11, .sl (n.segs.map Seg.row)), (12, di n.segs.length), (13, di j)], HS n p (List.zipWith segFl (n.segs.take j) (p.rates.take j))⟩) (fun j => True) (weak_eq [] [(0, 2), (0, 3), (0, 4), (0, 5)] [(2, .ptr (0, 2) 0 0 0), (3, .ptr (0, 3) 0 0 0), (4, .ptr (0, 4) 0 0 0), (5, .ptr (0, 5) 0 0 0), (11, .sl (n.segs.map Seg.row)), (12, di n.segs.length), (13, di 0)] (by simp (config := { maxSteps := 500000 }) only [↓vp, vv, implies_true, forall_const, undef, InI, ↓reduceIte, simprocAttr, coverS, HS, netD, plnD, zeros]) (by simp (config := { maxSteps := 500000 }) only [↓vp, vv, implies_true, forall_const, undef, InI, ↓reduceIte, simprocAttr, refsF, HS, netD, plnD, zeros]) (by simp (config := { maxSteps := 500000 }) only [↓vp, vv, implies_true, forall_const, undef, InI, ↓reduceIte, simprocAttr, HS, netD, plnD, zeros]) (by simp) (by simp (config := { maxSteps := 500000 }) only [↓vp, vv, implies_true, forall_const, undef, InI, ↓reduceIte, simprocAttr, HS, netD, plnD, zeros]; try rfl)) trivial (fun j hj _ => ?_) (fun _ => ?_)
  · have hj' : (j : Int) < n.segs.length := by omega
    have hn := idx_nn j
    have w1 := idx_next (j := j) (by omega)
    have hr : j < p.rates.length := by omega
    have hr' : (j : Int) < p.rates.length := by omega
    have hg := getD_map Seg.row n.segs j hj
    have hg2 := iRow_at p.rates j hr
    have hT := zip_take segFl hj hr
    have hi : FlIn (segFl n.segs[j] p.rates[j]) := s5 _ (List.mem_append_left _ (zip_mem segFl hj hr))
    have hb := bound (List.zipWith segFl (n.segs.take j) (p.rates.take j)) (by rw [List.length_zipWith, List.length_take]; omega) fun t ht => s5 t (List.mem_append_left _ (zip_sub segFl _ _ j t ht))
    have ha := addF_amt (List.zipWith segFl (n.segs.take j) (p.rates.take j)) _ hi
    rw [← hT] at ha
    generalize List.zipWith segFl (n.segs.take j) (p.rates.take j) = T at hb ha
    have hpre : AddPre (amtM T) n.segs[j].fr n.segs[j].to p.rates[j] := ⟨amtM_len T, hb, hi.1, hi.2.1, by have := hi.2.2; unfold segFl at this; dsimp only at this; omega, by have := hi.2.2; unfold segFl at this; dsimp only at this; omega⟩
    unfold segFl at ha
    dsimp only at ha
    generalize n.segs[j] = s at hg ha hpre
    generalize p.rates[j] = r at hg2 ha hpre
    simp (config := { maxSteps := 500000 }) only [↓vp, vv, implies_true, forall_const, undef, InI, ↓reduceIte, simprocAttr, c70, r70, c70_1, c70_2, c70_3, c70_4, c70_5, c70_6, refs_di, nms_di, HS, netD, plnD, rowAdd, idsOf_map, hj', hr', hn, Int.toNat_natCast, hg, hg2, Seg.row, w1, ha, hpre]
    exact rng_next hj (weak_eq [] [(0, 2), (0, 3), (0, 4), (0, 5)] [(2, .ptr (0, 2) 0 0 0), (3, .ptr (0, 3) 0 0 0), (4, .ptr (0, 4) 0 0 0), (5, .ptr (0, 5) 0 0 0), (11, .sl (n.segs.map Seg.row)), (12, di n.segs.length), (13, di (j + 1 : Nat))] (by simp (config := { maxSteps := 500000 }) only [↓vp, vv, implies_true, forall_const, undef, InI, ↓reduceIte, simprocAttr, coverS, HS, netD, plnD, zeros, w1, refs_di]) (by simp (config := { maxSteps := 500000 }) only [↓vp, vv, implies_true, forall_const, undef, InI, ↓reduceIte, simprocAttr, refsF, HS, netD, plnD, zeros, w1, refs_di]) (by simp (config := { maxSteps := 500000 }) only [↓vp, vv, implies_true, forall_const, undef, InI, ↓reduceIte, simprocAttr, HS, netD, plnD, zeros, w1, refs_di]) (by simp) (by simp (config := { maxSteps := 500000 }) only [↓vp, vv, implies_true, forall_const, undef, InI, ↓reduceIte, simprocAttr, HS, netD, plnD, zeros, w1, refs_di]; try rfl)) trivial
  · simp (config := { maxSteps := 500000 }) only [↓vp, vv, implies_true, forall_const, undef, InI, ↓reduceIte, simprocAttr, c70, r70, c70_1, c70_2, c70_3, c70_4, c70_5, c70_6, refs_di, nms_di, HS, netD, plnD, Int.lt_irrefl]
    have hTs : List.zipWith segFl (n.segs.take n.segs.length) (p.rates.take n.segs.length) = List.zipWith segFl n.segs p.rates := by rw [List.take_length, ← s3, List.take_length]
    rw [hTs]
    refine rng_loop n.ports.length (fun j => ⟨fr [(3, .ptr (0, 3) 0 0 0), (4, .ptr (0, 4) 0 0 0), (5, .ptr (0, 5) 0 0 0), (30, .sl (n.ports.map Port.row)), (31, di n.ports.length), (32, di j)], HS2 p (List.zipWith segFl n.segs p.rates ++ List.zipWith portFl (n.ports.take j) (p.ports.take j))⟩) (fun j => True) (weak_eq [] [(0, 3), (0, 4), (0, 5)] [(3, .ptr (0, 3) 0 0 0), (4, .ptr (0, 4) 0 0 0), (5, .ptr (0, 5) 0 0 0), (30, .sl (n.ports.map Port.row)), (31, di n.ports.length), (32, di 0)] (by simp (config := { maxSteps := 500000 }) only [↓vp, vv, implies_true, forall_const, undef, InI, ↓reduceIte, simprocAttr, coverS, HS2, netD, plnD, zeros, refs_di, List.zipWith_nil_left]) (by simp (config := { maxSteps := 500000 }) only [↓vp, vv, implies_true, forall_const, undef, InI, ↓reduceIte, simprocAttr, refsF, HS2, netD, plnD, zeros, refs_di, List.zipWith_nil_left]) (by simp (config := { maxSteps := 500000 }) only [↓vp, vv, implies_true, forall_const, undef, InI, ↓reduceIte, simprocAttr, HS2, netD, plnD, zeros, refs_di, List.zipWith_nil_left]) (by simp) (by simp (config := { maxSteps := 500000 }) only [↓vp, vv, implies_true, forall_const, undef, InI, ↓reduceIte, simprocAttr, HS2, netD, plnD, zeros, refs_di, List.zipWith_nil_left]; try rfl)) trivial (fun j hj _ => ?_) (fun _ => ?_)
    · have hj' : (j : Int) < n.ports.length := by omega
      have hn := idx_nn j
      have w1 := idx_next (j := j) (by omega)
      have hr : j < p.ports.length := by omega
      have hr' : (j : Int) < p.ports.length := by omega
      have hg := getD_map Port.row n.ports j hj
      have hg2 := iRow_at p.ports j hr
      have hT := zip_take portFl hj hr
      have hi : FlIn (portFl n.ports[j] p.ports[j]) := s5 _ (List.mem_append_right _ (zip_mem portFl hj hr))
      have hb := bound (List.zipWith segFl n.segs p.rates ++ List.zipWith portFl (n.ports.take j) (p.ports.take j)) (by rw [List.length_append, List.length_zipWith, List.length_zipWith, List.length_take]; omega) fun t ht => by
        rcases List.mem_append.1 ht with ht | ht
        · exact s5 t (List.mem_append_left _ ht)
        · exact s5 t (List.mem_append_right _ (zip_sub portFl _ _ j t ht))
      have ha := addF_amt (List.zipWith segFl n.segs p.rates ++ List.zipWith portFl (n.ports.take j) (p.ports.take j)) _ hi
      rw [List.append_assoc, ← hT] at ha
      generalize List.zipWith segFl n.segs p.rates ++ List.zipWith portFl (n.ports.take j) (p.ports.take j) = T at hb ha
      have hpre : AddPre (amtM T) (-1) n.ports[j].node p.ports[j] := ⟨amtM_len T, hb, by omega, hi.2.1, by have := hi.2.2; unfold portFl at this; dsimp only at this; omega, by have := hi.2.2; unfold portFl at this; dsimp only at this; omega⟩
      unfold portFl at ha
      dsimp only at ha
      generalize n.ports[j] = s at hg ha hpre
      generalize p.ports[j] = r at hg2 ha hpre
      simp (config := { maxSteps := 500000 }) only [↓vp, vv, implies_true, forall_const, undef, InI, ↓reduceIte, simprocAttr, c70, r70, c70_1, c70_2, c70_3, c70_4, c70_5, c70_6, refs_di, nms_di, HS2, plnD, rowAdd, idsOf_map, hj', hr', hn, Int.toNat_natCast, hg, hg2, Port.row, w1, ha, hpre]
      exact rng_next hj (weak_eq [] [(0, 3), (0, 4), (0, 5)] [(3, .ptr (0, 3) 0 0 0), (4, .ptr (0, 4) 0 0 0), (5, .ptr (0, 5) 0 0 0), (30, .sl (n.ports.map Port.row)), (31, di n.ports.length), (32, di (j + 1 : Nat))] (by simp (config := { maxSteps := 500000 }) only [↓vp, vv, implies_true, forall_const, undef, InI, ↓reduceIte, simprocAttr, coverS, HS2, netD, plnD, zeros, w1, refs_di]) (by simp (config := { maxSteps := 500000 }) only [↓vp, vv, implies_true, forall_const, undef, InI, ↓reduceIte, simprocAttr, refsF, HS2, netD, plnD, zeros, w1, refs_di]) (by simp (config := { maxSteps := 500000 }) only [↓vp, vv, implies_true, forall_const, undef, InI, ↓reduceIte, simprocAttr, HS2, netD, plnD, zeros, w1, refs_di]) (by simp) (by simp (config := { maxSteps := 500000 }) only [↓vp, vv, implies_true, forall_const, undef, InI, ↓reduceIte, simprocAttr, HS2, netD, plnD, zeros, w1, refs_di]; try rfl)) trivial
    · have hTs : List.zipWith segFl n.segs p.rates ++ List.zipWith portFl (n.ports.take n.ports.length) (p.ports.take n.ports.length) = flowsOf n p := by rw [List.take_length, ← s4, List.take_length]; rfl
      rw [hTs]
      generalize flowsOf n p = T
      have hl := amtM_len T
      have ht : ((amtM T).map di).take 48 = (amtM T).map di := List.take_of_length_le (by rw [List.length_map, hl]; exact Nat.le_refl _)
      simp (config := { maxSteps := 500000 }) only [↓vp, vv, implies_true, forall_const, undef, InI, ↓reduceIte, simprocAttr, c70, r70, c70_1, c70_2, c70_3, c70_4, c70_5, c70_6, refs_di, nms_di, HS2, plnD, zeros, Int.lt_irrefl, hl, ht, put_all, di_done, Pu]
end Go.Proofs.Ytiaenojpbiahgaa
