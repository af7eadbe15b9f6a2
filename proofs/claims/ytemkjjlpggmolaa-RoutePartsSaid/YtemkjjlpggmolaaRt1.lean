
/- Ways through a network: the plain laws: distances by looking from node to node. -/
import Derived.Test.YtemkjjlpggmolaaFl1
namespace Go.Proofs.Ytemkjjlpggmolaa
open Go
set_option linter.unusedVariables false
set_option linter.unusedSimpArgs false
set_option maxRecDepth 100000

/-- Where a segment leads from a node, and whether backward. -/
def ovr (x : Seg × Bool) (v : Nat) : Option (Nat × Bool) :=
  if x.2 = true then Option.none else if x.1.fr = v then some (x.1.to.toNat, false) else if x.1.to = v then some (x.1.fr.toNat, true) else Option.none
def SgIn (N : Nat) (x : Seg × Bool) : Prop := (0 ≤ x.1.fr ∧ x.1.fr < N) ∧ 0 ≤ x.1.to ∧ x.1.to < N
theorem ovr_lt {N : Nat} {x : Seg × Bool} {v w : Nat} {b : Bool} (h : SgIn N x) (e : ovr x v = some (w, b)) : w < N ∧ v < N := by
  obtain ⟨⟨a1, a2⟩, a3, a4⟩ := h
  unfold ovr at e
  split at e
  · cases e
  · split at e
    · cases e; omega
    · split at e
      · cases e; omega
      · cases e
theorem ovr_sym {N : Nat} {x : Seg × Bool} {u w : Nat} {b : Bool} (h : SgIn N x) (e : ovr x u = some (w, b)) : ∃ b', ovr x w = some (u, b') := by
  obtain ⟨⟨a1, a2⟩, a3, a4⟩ := h
  unfold ovr at e ⊢
  split at e
  · cases e
  · rename_i h0
    rw [if_neg h0]
    split at e
    · cases e
      rename_i h1
      split
      · rename_i h2
        exact ⟨false, by congr 2; omega⟩
      · rw [if_pos (by omega)]
        exact ⟨true, by congr 2; omega⟩
    · split at e
      · cases e
        rename_i h1 h2
        rw [if_pos (by omega)]
        exact ⟨false, by congr 2; omega⟩
      · cases e
theorem getD_seti (A : List Int) (i k : Nat) (v : Int) (h : i < A.length) : (A.set i v).getD k 0 = if i = k then v else A.getD k 0 := by
  rw [List.getD_eq_getElem?_getD, List.getD_eq_getElem?_getD, List.getElem?_set]
  split
  · rename_i e; subst e; simp [h]
  · rfl
/-- Distances to a node. -/
structure IsD (N : Nat) (E : List (Seg × Bool)) (t : Nat) (D : List Int) : Prop where
  len : D.length = N
  lo : ∀ k, k < N → -1 ≤ D.getD k 0
  z : ∀ k, k < N → (D.getD k 0 = 0 ↔ k = t)
  adj : ∀ x ∈ E, ∀ u w b, ovr x u = some (w, b) → 0 ≤ D.getD u 0 → 0 ≤ D.getD w 0 ∧ D.getD w 0 ≤ D.getD u 0 + 1
  back : ∀ k, k < N → 0 < D.getD k 0 → ∃ x ∈ E, ∃ w b, ovr x k = some (w, b) ∧ D.getD w 0 = D.getD k 0 - 1
/-- A way of so many hops. -/
inductive Hops (E : List (Seg × Bool)) : Nat → Nat → Nat → Prop where
  | nil (a : Nat) : Hops E a a 0
  | cons {x : Seg × Bool} {a w b n : Nat} {k : Bool} (hx : x ∈ E) (e : ovr x a = some (w, k)) (h : Hops E w b n) : Hops E a b (n + 1)
theorem Hops.trans {E : List (Seg × Bool)} {a b c n m : Nat} (h : Hops E a b n) (k : Hops E b c m) : Hops E a c (n + m) := by
  induction h with
  | nil a => rw [Nat.zero_add]; exact k
  | cons hx e h ih => rw [Nat.add_right_comm]; exact .cons hx e (ih k)
theorem Hops.symm {N : Nat} {E : List (Seg × Bool)} (hE : ∀ x ∈ E, SgIn N x) {a b n : Nat} (h : Hops E a b n) : Hops E b a n := by
  induction h with
  | nil a => exact .nil a
  | cons hx e h ih =>
    obtain ⟨k', e'⟩ := ovr_sym (hE _ hx) e
    exact ih.trans (.cons hx e' (.nil _))
theorem Hops.sub {E E' : List (Seg × Bool)} (hE : ∀ x ∈ E, x ∈ E' ∨ ∀ v, ovr x v = Option.none) {a b n : Nat} (h : Hops E a b n) : Hops E' a b n := by
  induction h with
  | nil a => exact .nil a
  | cons hx e h ih =>
    rcases hE _ hx with h1 | h1
    · exact .cons h1 e ih
    · rw [h1] at e; cases e
theorem IsD.hops {N : Nat} {E : List (Seg × Bool)} {t : Nat} {D : List Int} (h : IsD N E t D) (hE : ∀ x ∈ E, SgIn N x) : ∀ (m k : Nat), k < N → D.getD k 0 = m → Hops E k t m
  | 0, k, hk, e => by rw [(h.z k hk).1 e]; exact .nil t
  | m + 1, k, hk, e => by
    obtain ⟨x, hx, w, b, e1, e2⟩ := h.back k hk (by omega)
    exact .cons hx e1 (h.hops hE m w (ovr_lt (hE x hx) e1).1 (by omega))
theorem IsD.le {N : Nat} {E : List (Seg × Bool)} {t : Nat} {D : List Int} (h : IsD N E t D) (hE : ∀ x ∈ E, SgIn N x) (ht : t < N) {k m : Nat} (hh : Hops E t k m) : 0 ≤ D.getD k 0 ∧ D.getD k 0 ≤ m := by
  have gen : ∀ {a b n : Nat}, Hops E a b n → 0 ≤ D.getD a 0 → 0 ≤ D.getD b 0 ∧ D.getD b 0 ≤ D.getD a 0 + n := fun hh => by
    induction hh with
    | nil a => exact fun h0 => ⟨h0, by omega⟩
    | cons hx e hh ih =>
      intro h0
      obtain ⟨q1, q2⟩ := h.adj _ hx _ _ _ e h0
      obtain ⟨q3, q4⟩ := ih q1
      exact ⟨q3, by omega⟩
  have h0 := (h.z t ht).2 rfl
  have := gen hh (by omega)
  omega
/-- What distances say of ways. -/
theorem IsD.iff {N : Nat} {E : List (Seg × Bool)} {t : Nat} {D : List Int} (h : IsD N E t D) (hE : ∀ x ∈ E, SgIn N x) (ht : t < N) {k : Nat} (hk : k < N) (m : Nat) : (0 ≤ D.getD k 0 ∧ D.getD k 0 ≤ m) ↔ ∃ n, n ≤ m ∧ Hops E k t n := by
  refine ⟨fun ⟨h0, h1⟩ => ?_, fun ⟨n, hn, hh⟩ => ?_⟩
  · obtain ⟨v, hv⟩ : ∃ v : Nat, D.getD k 0 = v := ⟨(D.getD k 0).toNat, by omega⟩
    exact ⟨v, by omega, h.hops hE v k hk hv⟩
  · have := h.le hE ht (hh.symm hE)
    omega
theorem back_lt {N : Nat} {E : List (Seg × Bool)} {D : List Int} (hl : D.length = N) (hb : ∀ k, k < N → 0 < D.getD k 0 → ∃ x ∈ E, ∃ w b, ovr x k = some (w, b) ∧ D.getD w 0 = D.getD k 0 - 1) (hE : ∀ x ∈ E, SgIn N x) {k : Nat} (hk : k < N) : D.getD k 0 < N := by
  rcases Int.lt_or_le (D.getD k 0) N with h1 | h1
  · exact h1
  · exfalso
    obtain ⟨v, hv⟩ : ∃ v : Nat, D.getD k 0 = v := ⟨(D.getD k 0).toNat, by omega⟩
    have lev : ∀ (v k : Nat), k < N → D.getD k 0 = v → ∀ m, m ≤ v → ∃ j, j < N ∧ D.getD j 0 = m := fun v => by
      induction v with
      | zero => intro k hk e m hm; exact ⟨k, hk, by omega⟩
      | succ v ih =>
        intro k hk e m hm
        rcases Nat.lt_or_ge m (v + 1) with h2 | h2
        · obtain ⟨x, hx, w, b, e1, e2⟩ := hb k hk (by omega)
          exact ih w (ovr_lt (hE x hx) e1).1 (by omega) m (by omega)
        · exact ⟨k, hk, by omega⟩
    have sub : ((List.range (v + 1)).map fun m : Nat => (m : Int)).length ≤ D.length := by
      refine List.Nodup.length_le_of_subset ?_ fun x hx => ?_
      · exact List.pairwise_map.2 (List.Pairwise.imp (fun h e => h (by omega)) List.nodup_range)
      · obtain ⟨m, hm, rfl⟩ := List.mem_map.1 hx
        obtain ⟨j, hj, e⟩ := lev v k hk hv m (by have := List.mem_range.1 hm; omega)
        rw [List.getD_eq_getElem?_getD, List.getElem?_eq_getElem (by omega)] at e
        rw [← e]
        exact List.getElem_mem _
    rw [List.length_map, List.length_range, hl] at sub
    omega
theorem IsD.lt_N {N : Nat} {E : List (Seg × Bool)} {t : Nat} {D : List Int} (h : IsD N E t D) (hE : ∀ x ∈ E, SgIn N x) {k : Nat} (hk : k < N) : D.getD k 0 < N := back_lt h.len h.back hE hk
/-- One segment, looked at from a node. -/
def bstep (at' : Nat) (s : List Int × List Nat) (x : Seg × Bool) : List Int × List Nat :=
  match ovr x at' with
  | some (w, _) => if s.1.getD w 0 < 0 then (s.1.set w (s.1.getD at' 0 + 1), s.2 ++ [w]) else s
  | Option.none => s
def bround (E : List (Seg × Bool)) (s : List Int × List Nat) : List Int × List Nat :=
  match s.2 with
  | [] => s
  | a :: q => E.foldl (bstep a) (s.1, q)
def bst (E : List (Seg × Bool)) (N t : Nat) : Nat → List Int × List Nat
  | 0 => ((List.replicate N (-1)).set t 0, [t])
  | i + 1 => bround E (bst E N t i)
structure BInv (N : Nat) (E : List (Seg × Bool)) (t : Nat) (dn : List Nat) (s : List Int × List Nat) : Prop where
  len : s.1.length = N
  lo : ∀ k, k < N → -1 ≤ s.1.getD k 0
  z : ∀ k, k < N → (s.1.getD k 0 = 0 ↔ k = t)
  back : ∀ k, k < N → 0 < s.1.getD k 0 → ∃ x ∈ E, ∃ w b, ovr x k = some (w, b) ∧ s.1.getD w 0 = s.1.getD k 0 - 1
  nd : (dn ++ s.2).Nodup
  mem : ∀ v ∈ dn ++ s.2, v < N ∧ 0 ≤ s.1.getD v 0
  srt : s.2.Pairwise fun a b => s.1.getD a 0 ≤ s.1.getD b 0
  top : ∀ h, s.2.head? = some h → ∀ k, k < N → s.1.getD k 0 ≤ s.1.getD h 0 + 1
  cl : ∀ k, k < N → 0 ≤ s.1.getD k 0 → k ∉ s.2 → ∀ x ∈ E, ∀ w b, ovr x k = some (w, b) → 0 ≤ s.1.getD w 0 ∧ s.1.getD w 0 ≤ s.1.getD k 0 + 1
/-- While a node is looked at. -/
structure JInv (N : Nat) (E : List (Seg × Bool)) (t a : Nat) (L : Int) (dn : List Nat) (P : List (Seg × Bool)) (s : List Int × List Nat) : Prop where
  len : s.1.length = N
  lo : ∀ k, k < N → -1 ≤ s.1.getD k 0
  z : ∀ k, k < N → (s.1.getD k 0 = 0 ↔ k = t)
  back : ∀ k, k < N → 0 < s.1.getD k 0 → ∃ x ∈ E, ∃ w b, ovr x k = some (w, b) ∧ s.1.getD w 0 = s.1.getD k 0 - 1
  nd : (dn ++ s.2).Nodup
  mem : ∀ v ∈ dn ++ s.2, v < N ∧ 0 ≤ s.1.getD v 0
  srt : s.2.Pairwise fun a b => s.1.getD a 0 ≤ s.1.getD b 0
  at' : a < N ∧ s.1.getD a 0 = L ∧ 0 ≤ L
  topL : ∀ k, k < N → s.1.getD k 0 ≤ L + 1
  low : ∀ v ∈ s.2, L ≤ s.1.getD v 0
  cl : ∀ k, k < N → 0 ≤ s.1.getD k 0 → k ∉ s.2 → k ≠ a → ∀ x ∈ E, ∀ w b, ovr x k = some (w, b) → 0 ≤ s.1.getD w 0 ∧ s.1.getD w 0 ≤ s.1.getD k 0 + 1
  dn' : ∀ x ∈ P, ∀ w b, ovr x a = some (w, b) → 0 ≤ s.1.getD w 0
theorem JInv.step {N : Nat} {E : List (Seg × Bool)} {t a : Nat} {L : Int} {dn : List Nat} {P : List (Seg × Bool)} {s : List Int × List Nat} (hE : ∀ x ∈ E, SgIn N x) (h : JInv N E t a L dn P s) {y : Seg × Bool} (hy : y ∈ E) : JInv N E t a L dn (P ++ [y]) (bstep a s y) := by
  have same : (∀ w b, ovr y a = some (w, b) → 0 ≤ s.1.getD w 0) → JInv N E t a L dn (P ++ [y]) s := fun hw =>
    ⟨h.len, h.lo, h.z, h.back, h.nd, h.mem, h.srt, h.at', h.topL, h.low, h.cl, fun x hx w b e => by
      rcases List.mem_append.1 hx with h1 | h1
      · exact h.dn' x h1 w b e
      · rw [List.mem_singleton.1 h1] at e; exact hw w b e⟩
  unfold bstep
  split
  · rename_i w b e
    obtain ⟨hw, ha⟩ := ovr_lt (hE y hy) e
    obtain ⟨b', e'⟩ := ovr_sym (hE y hy) e
    obtain ⟨_, hL, hL0⟩ := h.at'
    have hl := h.len
    split
    · rename_i hn
      rw [hL]
      have g : ∀ k, (s.1.set w (L + 1)).getD k 0 = if w = k then L + 1 else s.1.getD k 0 := fun k => getD_seti _ _ _ _ (by omega)
      have g0 : ∀ k, 0 ≤ s.1.getD k 0 → (s.1.set w (L + 1)).getD k 0 = s.1.getD k 0 := fun k hk => by
        rw [g, if_neg]
        intro e; subst e; omega
      have hwn : w ∉ dn ++ s.2 := fun hm => by have := (h.mem w hm).2; omega
      refine ⟨by dsimp only; rw [List.length_set]; exact hl, fun k hk => ?_, fun k hk => ?_, fun k hk hp => ?_, ?_, fun v hv => ?_, ?_, ⟨ha, by dsimp only; rw [g0 a (by omega)]; exact hL, hL0⟩, fun k hk => ?_, fun v hv => ?_, fun k hk hp hq hka x hx w' b2 ex => ?_, fun x hx w' b2 ex => ?_⟩ <;> dsimp only at *
      · rw [g]
        have := h.lo k hk
        split <;> omega
      · rw [g]
        have := h.z k hk
        split
        · rename_i ek
          subst ek
          refine ⟨fun hh => by omega, fun hh => ?_⟩
          have := this.2 hh
          omega
        · exact this
      · rw [g] at hp
        rw [g]
        split at hp
        · rename_i ek
          subst ek
          rw [if_pos rfl]
          exact ⟨y, hy, a, b', e', by rw [g0 a (by omega)]; omega⟩
        · rename_i ek
          rw [if_neg ek]
          obtain ⟨x, hx, w', b2, e1, e2⟩ := h.back k hk hp
          exact ⟨x, hx, w', b2, e1, by rw [g0 w' (by omega)]; exact e2⟩
      · rw [← List.append_assoc]
        exact List.nodup_append.2 ⟨h.nd, List.nodup_cons.2 ⟨List.not_mem_nil, List.nodup_nil⟩, fun x hx y2 hy2 e2 => by
          rw [List.mem_singleton.1 hy2] at e2
          subst e2
          exact hwn hx⟩
      · rw [← List.append_assoc] at hv
        rcases List.mem_append.1 hv with h1 | h1
        · obtain ⟨q1, q2⟩ := h.mem v h1
          exact ⟨q1, by rw [g0 v q2]; exact q2⟩
        · rw [List.mem_singleton.1 h1]
          exact ⟨hw, by rw [g, if_pos rfl]; omega⟩
      · have pos : ∀ v ∈ s.2, 0 ≤ s.1.getD v 0 := fun v hv => (h.mem v (List.mem_append_right _ hv)).2
        refine List.pairwise_append.2 ⟨List.Pairwise.imp_of_mem (fun {p q} hp hq hpq => by rw [g0 p (pos p hp), g0 q (pos q hq)]; exact hpq) h.srt, List.pairwise_singleton _ _, fun p hp q hq => ?_⟩
        rw [List.mem_singleton.1 hq, g0 p (pos p hp), g, if_pos rfl]
        exact h.topL p (h.mem p (List.mem_append_right _ hp)).1
      · rw [g]
        have := h.topL k hk
        split <;> omega
      · rcases List.mem_append.1 hv with h1 | h1
        · rw [g0 v (h.mem v (List.mem_append_right _ h1)).2]
          exact h.low v h1
        · rw [List.mem_singleton.1 h1, g, if_pos rfl]
          omega
      · have hkw : w ≠ k := fun ek => hq (List.mem_append_right _ (by rw [ek]; exact List.mem_singleton_self _))
        rw [g, if_neg hkw] at hp
        rw [g k, if_neg hkw]
        obtain ⟨q1, q2⟩ := h.cl k hk hp (fun hm => hq (List.mem_append_left _ hm)) hka x hx w' b2 ex
        rw [g0 w' q1]
        exact ⟨q1, q2⟩
      · rcases List.mem_append.1 hx with h1 | h1
        · have := h.dn' x h1 w' b2 ex
          rw [g0 w' this]; exact this
        · rw [List.mem_singleton.1 h1, e] at ex
          cases ex
          rw [g, if_pos rfl]
          omega
    · rename_i hn
      refine same fun w' b2 e2 => ?_
      rw [e] at e2
      cases e2
      omega
  · rename_i e
    exact same fun w b e2 => by rw [e] at e2; cases e2
theorem JInv.all {N : Nat} {E : List (Seg × Bool)} {t a : Nat} {L : Int} {dn : List Nat} (hE : ∀ x ∈ E, SgIn N x) : ∀ (F P : List (Seg × Bool)) (s : List Int × List Nat), (∀ x ∈ F, x ∈ E) → JInv N E t a L dn P s → JInv N E t a L dn (P ++ F) (F.foldl (bstep a) s)
  | [], P, s, _, h => by rw [List.append_nil]; exact h
  | y :: F, P, s, hF, h => by
    have := JInv.all hE F (P ++ [y]) (bstep a s y) (fun x hx => hF x (List.mem_cons_of_mem _ hx)) (h.step hE (hF y (List.mem_cons_self ..)))
    rw [List.append_assoc] at this
    exact this
theorem BInv.round {N : Nat} {E : List (Seg × Bool)} {t : Nat} {dn : List Nat} {s : List Int × List Nat} (hE : ∀ x ∈ E, SgIn N x) (h : BInv N E t dn s) {a : Nat} {q : List Nat} (hq : s.2 = a :: q) : BInv N E t (dn ++ [a]) (bround E s) := by
  have ha := h.mem a (by rw [hq]; simp)
  have hs := h.srt
  have hnd := h.nd
  have hm := h.mem
  have hcl := h.cl
  have htop := h.top a (by rw [hq]; rfl)
  rw [hq] at hs hnd hm hcl
  have e : dn ++ a :: q = (dn ++ [a]) ++ q := by simp
  have hj : JInv N E t a (s.1.getD a 0) (dn ++ [a]) [] (s.1, q) :=
    ⟨h.len, h.lo, h.z, h.back, by dsimp only; rw [← e]; exact hnd, fun v hv => hm v (by rw [e]; exact hv), (List.pairwise_cons.1 hs).2, ⟨ha.1, rfl, ha.2⟩, htop, (List.pairwise_cons.1 hs).1,
      fun k hk h0 hkq hka => hcl k hk h0 (fun hh => by rcases List.mem_cons.1 hh with h1 | h1; exact hka h1; exact hkq h1), fun x hx => by cases hx⟩
  have hall := JInv.all hE E [] (s.1, q) (fun x hx => hx) hj
  rw [List.nil_append] at hall
  have er : bround E s = E.foldl (bstep a) (s.1, q) := by unfold bround; rw [hq]
  rw [er]
  generalize E.foldl (bstep a) (s.1, q) = r at hall
  obtain ⟨_, hL, hL0⟩ := hall.at'
  refine ⟨hall.len, hall.lo, hall.z, hall.back, hall.nd, hall.mem, hall.srt, fun hd hh k hk => ?_, fun k hk h0 hkq x hx w b ex => ?_⟩
  · have h1 := hall.topL k hk
    have h2 := hall.low hd (List.mem_of_mem_head? hh)
    omega
  · by_cases hka : k = a
    · subst hka
      have h1 := hall.dn' x hx w b ex
      have h2 := hall.topL w (ovr_lt (hE x hx) ex).1
      exact ⟨h1, by omega⟩
    · exact hall.cl k hk h0 hkq hka x hx w b ex
theorem bst_inv {N : Nat} {E : List (Seg × Bool)} {t : Nat} (hE : ∀ x ∈ E, SgIn N x) (ht : t < N) : ∀ i, ∃ dn, BInv N E t dn (bst E N t i) ∧ (dn.length = i ∨ (bst E N t i).2 = [])
  | 0 => by
    have g : ∀ k, k < N → ((List.replicate N (-1 : Int)).set t 0).getD k 0 = if t = k then 0 else -1 := fun k hk => by
      rw [getD_seti _ _ _ _ (by simpa using ht)]
      split
      · rfl
      · rw [List.getD_eq_getElem?_getD, List.getElem?_replicate, if_pos hk]; rfl
    refine ⟨[], ⟨by simp [bst], fun k hk => ?_, fun k hk => ?_, fun k hk h0 => ?_, by simp [bst], fun v hv => ?_, by simp [bst], fun hd hh k hk => ?_, fun k hk h0 hkq => ?_⟩, .inl rfl⟩ <;> simp only [bst] at *
    · rw [g k hk]; split <;> omega
    · rw [g k hk]
      split
      · rename_i e; exact ⟨fun _ => e.symm, fun _ => rfl⟩
      · rename_i e; exact ⟨fun h => by omega, fun h => absurd h.symm e⟩
    · rw [g k hk] at h0; split at h0 <;> omega
    · rw [List.nil_append, List.mem_singleton] at hv
      subst hv
      rw [g v ht, if_pos rfl]
      exact ⟨ht, Int.le_refl _⟩
    · simp at hh
      subst hh
      rw [g k hk, g t ht, if_pos rfl]
      split <;> omega
    · rw [g k hk] at h0
      split at h0
      · rename_i e; subst e; simp at hkq
      · omega
  | i + 1 => by
    obtain ⟨dn, h, hd⟩ := bst_inv hE ht i
    cases hq : (bst E N t i).2 with
    | nil =>
      have e : bst E N t (i + 1) = bst E N t i := by show bround E (bst E N t i) = _; unfold bround; rw [hq]
      rw [e]
      exact ⟨dn, h, .inr hq⟩
    | cons a q =>
      refine ⟨dn ++ [a], h.round hE hq, .inl ?_⟩
      rcases hd with h1 | h1
      · rw [List.length_append, h1]; rfl
      · rw [h1] at hq; cases hq
theorem bst_len {N : Nat} {E : List (Seg × Bool)} {t : Nat} (hE : ∀ x ∈ E, SgIn N x) (ht : t < N) (i : Nat) : (bst E N t i).2 = [] ∨ i + (bst E N t i).2.length ≤ N := by
  obtain ⟨dn, h, hd⟩ := bst_inv hE ht i
  rcases hd with h1 | h1
  · right
    have := List.Nodup.length_le_of_subset h.nd (l₂ := List.range N) fun v hv => List.mem_range.2 (h.mem v hv).1
    rw [List.length_append, List.length_range] at this
    omega
  · exact .inl h1
theorem bst_stop {N : Nat} {E : List (Seg × Bool)} {t i : Nat} (h : (bst E N t i).2 = []) : ∀ m, bst E N t (i + m) = bst E N t i
  | 0 => rfl
  | m + 1 => by
    show bround E (bst E N t (i + m)) = _
    rw [bst_stop h m]
    unfold bround
    rw [h]
def hopsL (n : Net) (c : List Bool) (t : Nat) : List Int := (bst (n.segs.zip c) n.nodes.length t n.nodes.length).1
theorem bst_end {N : Nat} {E : List (Seg × Bool)} {t i : Nat} (hE : ∀ x ∈ E, SgIn N x) (ht : t < N) (hi : i ≤ N) (h : (bst E N t i).2 = []) : (bst E N t N).1 = (bst E N t i).1 := by
  have := bst_stop h (N - i)
  rw [show i + (N - i) = N by omega] at this
  rw [this]
theorem hops_isD {n : Net} {c : List Bool} {t : Nat} (hE : ∀ x ∈ n.segs.zip c, SgIn n.nodes.length x) (ht : t < n.nodes.length) : IsD n.nodes.length (n.segs.zip c) t (hopsL n c t) := by
  obtain ⟨dn, h, _⟩ := bst_inv hE ht n.nodes.length
  have hq : (bst (n.segs.zip c) n.nodes.length t n.nodes.length).2 = [] := by
    rcases bst_len hE ht n.nodes.length with h1 | h1
    · exact h1
    · exact List.length_eq_zero_iff.1 (by omega)
  exact ⟨h.len, h.lo, h.z, fun x hx u w b e h0 => h.cl u (ovr_lt (hE x hx) e).2 h0 (by rw [hq]; simp) x hx w b e, h.back⟩
end Go.Proofs.Ytemkjjlpggmolaa
