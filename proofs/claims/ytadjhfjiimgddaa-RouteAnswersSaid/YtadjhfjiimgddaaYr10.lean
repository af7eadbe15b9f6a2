/- RouteAnswers: Rt1 Rt2 Fl2 CodeF Fw1 Fw4 Rt3. -/
import Derived.Test.YtadjhfjiimgddaaYr9
import Derived.Test.YtadjhfjiimgddaaYr3
import Derived.Test.YtadjhfjiimgddaaProg
import Derived.Test.YtadjhfjiimgddaaYr5
set_option linter.unusedSimpArgs false
set_option linter.unusedVariables false
set_option maxRecDepth 100000

/- Ways through a network: the plain laws: distances by looking from node to node. -/
namespace Go.Proofs.Ytadjhfjiimgddaa
open Go
def ovr (x : Seg × Bool) (v : Nat) : Option (Nat × Bool) :=
 if x.2 = true then Option.none else if x.1.fr = v then some (x.1.to.toNat, false) else if x.1.to = v then some (x.1.fr.toNat, true) else Option.none
def SgIn (N : Nat) (x : Seg × Bool) : Prop := (0 ≤ x.1.fr ∧ x.1.fr < N) ∧ 0 ≤ x.1.to ∧ x.1.to < N
theorem ovr_lt {N : Nat} {x : Seg × Bool} {v w : Nat} {b : Bool} (h : SgIn N x) (e : ovr x v = some (w, b)) : w < N ∧ v < N := by
 obtain ⟨⟨a1, a2⟩, a3, a4⟩ := h
 unfold ovr at e
 split at e
 ·cases e
 ·split at e
  ·cases e; omega
  ·split at e
   ·cases e; omega
   ·cases e
theorem ovr_sym {N : Nat} {x : Seg × Bool} {u w : Nat} {b : Bool} (h : SgIn N x) (e : ovr x u = some (w, b)) : ∃ b', ovr x w = some (u, b') := by
 obtain ⟨⟨a1, a2⟩, a3, a4⟩ := h
 unfold ovr at e ⊢
 split at e
 ·cases e
 ·rename_i h0
  rw [if_neg h0]
  split at e
  ·cases e
   rename_i h1
   split
   ·rename_i h2
    exact ⟨false, by congr 2; omega⟩
   ·rw [if_pos (by omega)]
    exact ⟨true, by congr 2; omega⟩
  ·split at e
   ·cases e
    rename_i h1 h2
    rw [if_pos (by omega)]
    exact ⟨false, by congr 2; omega⟩
   ·cases e
theorem getD_seti (A : List Int) (i k : Nat) (v : Int) (h : i < A.length) : (A.set i v).getD k 0 = if i = k then v else A.getD k 0 := by
 rw [List.getD_eq_getElem?_getD, List.getD_eq_getElem?_getD, List.getElem?_set]
 split
 ·rename_i e; subst e; simp [h]
 ·rfl
structure IsD (N : Nat) (E : List (Seg × Bool)) (t : Nat) (D : List Int) : Prop where
 len : D.length = N
 lo : ∀ k, k < N → -1 ≤ D.getD k 0
 z : ∀ k, k < N → (D.getD k 0 = 0 ↔ k = t)
 adj : ∀ x ∈ E, ∀ u w b, ovr x u = some (w, b) → 0 ≤ D.getD u 0 → 0 ≤ D.getD w 0 ∧ D.getD w 0 ≤ D.getD u 0 + 1
 back : ∀ k, k < N → 0 < D.getD k 0 → ∃ x ∈ E, ∃ w b, ovr x k = some (w, b) ∧ D.getD w 0 = D.getD k 0 - 1
inductive Hops (E : List (Seg × Bool)) : Nat → Nat → Nat → Prop where
 | nil (a : Nat) : Hops E a a 0
 | cons {x : Seg × Bool} {a w b n : Nat} {k : Bool} (hx : x ∈ E) (e : ovr x a = some (w, k)) (h : Hops E w b n) : Hops E a b (n + 1)
theorem Hops.trans {E : List (Seg × Bool)} {a b c n m : Nat} (h : Hops E a b n) (k : Hops E b c m) : Hops E a c (n + m) := by
 induction h with
 | nil a => rw [Nat.zero_add]; exact k
 | cons hx e h ih => rw [Nat.add_right_comm]; exact .cons hx e (ih k)
theorem Hops.symm {N : Nat} {E : List (Seg × Bool)} (hE : ∀ x ∈ E, SgIn N x) {a b n : Nat} (h : Hops E a b n) : Hops E b a n := by
 induction h with
 | nil a => exact .nil a
 | cons hx e h ih =>
  obtain ⟨k', e'⟩ := ovr_sym (hE _ hx) e
  exact ih.trans (.cons hx e' (.nil _))
theorem Hops.sub {E E' : List (Seg × Bool)} (hE : ∀ x ∈ E, x ∈ E' ∨ ∀ v, ovr x v = Option.none) {a b n : Nat} (h : Hops E a b n) : Hops E' a b n := by
 induction h with
 | nil a => exact .nil a
 | cons hx e h ih =>
  rcases hE _ hx with h1 | h1
  ·exact .cons h1 e ih
  ·rw [h1] at e; cases e
theorem IsD.hops {N : Nat} {E : List (Seg × Bool)} {t : Nat} {D : List Int} (h : IsD N E t D) (hE : ∀ x ∈ E, SgIn N x) : ∀ (m k : Nat), k < N → D.getD k 0 = m → Hops E k t m
 | 0, k, hk, e => by rw [(h.z k hk).1 e]; exact .nil t
 | m + 1, k, hk, e => by
  obtain ⟨x, hx, w, b, e1, e2⟩ := h.back k hk (by omega)
  exact .cons hx e1 (h.hops hE m w (ovr_lt (hE x hx) e1).1 (by omega))
theorem IsD.le {N : Nat} {E : List (Seg × Bool)} {t : Nat} {D : List Int} (h : IsD N E t D) (hE : ∀ x ∈ E, SgIn N x) (ht : t < N) {k m : Nat} (hh : Hops E t k m) : 0 ≤ D.getD k 0 ∧ D.getD k 0 ≤ m := by
 have gen : ∀ {a b n : Nat}, Hops E a b n → 0 ≤ D.getD a 0 → 0 ≤ D.getD b 0 ∧ D.getD b 0 ≤ D.getD a 0 + n := fun hh => by
  induction hh with
  | nil a => exact fun h0 => ⟨h0, by omega⟩
  | cons hx e hh ih =>
   intro h0
   obtain ⟨q1, q2⟩ := h.adj _ hx _ _ _ e h0
   obtain ⟨q3, q4⟩ := ih q1
   exact ⟨q3, by omega⟩
 have h0 := (h.z t ht).2 rfl
 have := gen hh (by omega)
 omega
theorem IsD.iff {N : Nat} {E : List (Seg × Bool)} {t : Nat} {D : List Int} (h : IsD N E t D) (hE : ∀ x ∈ E, SgIn N x) (ht : t < N) {k : Nat} (hk : k < N) (m : Nat) : (0 ≤ D.getD k 0 ∧ D.getD k 0 ≤ m) ↔ ∃ n, n ≤ m ∧ Hops E k t n := by
 refine ⟨fun ⟨h0, h1⟩ => ?_, fun ⟨n, hn, hh⟩ => ?_⟩
 ·obtain ⟨v, hv⟩ : ∃ v : Nat, D.getD k 0 = v := ⟨(D.getD k 0).toNat, by omega⟩
  exact ⟨v, by omega, h.hops hE v k hk hv⟩
 ·have := h.le hE ht (hh.symm hE)
  omega
theorem back_lt {N : Nat} {E : List (Seg × Bool)} {D : List Int} (hl : D.length = N) (hb : ∀ k, k < N → 0 < D.getD k 0 → ∃ x ∈ E, ∃ w b, ovr x k = some (w, b) ∧ D.getD w 0 = D.getD k 0 - 1) (hE : ∀ x ∈ E, SgIn N x) {k : Nat} (hk : k < N) : D.getD k 0 < N := by
 rcases Int.lt_or_le (D.getD k 0) N with h1 | h1
 ·exact h1
 ·exfalso
  obtain ⟨v, hv⟩ : ∃ v : Nat, D.getD k 0 = v := ⟨(D.getD k 0).toNat, by omega⟩
  have lev : ∀ (v k : Nat), k < N → D.getD k 0 = v → ∀ m, m ≤ v → ∃ j, j < N ∧ D.getD j 0 = m := fun v => by
   induction v with
   | zero => intro k hk e m hm; exact ⟨k, hk, by omega⟩
   | succ v ih =>
    intro k hk e m hm
    rcases Nat.lt_or_ge m (v + 1) with h2 | h2
    ·obtain ⟨x, hx, w, b, e1, e2⟩ := hb k hk (by omega)
     exact ih w (ovr_lt (hE x hx) e1).1 (by omega) m (by omega)
    ·exact ⟨k, hk, by omega⟩
  have sub : ((List.range (v + 1)).map fun m : Nat => (m : Int)).length ≤ D.length := by
   refine List.Nodup.length_le_of_subset ?_ fun x hx => ?_
   ·exact List.pairwise_map.2 (List.Pairwise.imp (fun h e => h (by omega)) List.nodup_range)
   ·obtain ⟨m, hm, rfl⟩ := List.mem_map.1 hx
    obtain ⟨j, hj, e⟩ := lev v k hk hv m (by have := List.mem_range.1 hm; omega)
    rw [List.getD_eq_getElem?_getD, List.getElem?_eq_getElem (by omega)] at e
    rw [← e]
    exact List.getElem_mem _
  rw [List.length_map, List.length_range, hl] at sub
  omega
theorem IsD.lt_N {N : Nat} {E : List (Seg × Bool)} {t : Nat} {D : List Int} (h : IsD N E t D) (hE : ∀ x ∈ E, SgIn N x) {k : Nat} (hk : k < N) : D.getD k 0 < N := back_lt h.len h.back hE hk
def bstep (at' : Nat) (s : List Int × List Nat) (x : Seg × Bool) : List Int × List Nat :=
 match ovr x at' with
 | some (w, _) => if s.1.getD w 0 < 0 then (s.1.set w (s.1.getD at' 0 + 1), s.2 ++ [w]) else s
 | Option.none => s
def bround (E : List (Seg × Bool)) (s : List Int × List Nat) : List Int × List Nat :=
 match s.2 with
 | [] => s
 | a :: q => E.foldl (bstep a) (s.1, q)
def bst (E : List (Seg × Bool)) (N t : Nat) : Nat → List Int × List Nat
 | 0 => ((List.replicate N (-1)).set t 0, [t])
 | i + 1 => bround E (bst E N t i)
structure BInv (N : Nat) (E : List (Seg × Bool)) (t : Nat) (dn : List Nat) (s : List Int × List Nat) : Prop where
 len : s.1.length = N
 lo : ∀ k, k < N → -1 ≤ s.1.getD k 0
 z : ∀ k, k < N → (s.1.getD k 0 = 0 ↔ k = t)
 back : ∀ k, k < N → 0 < s.1.getD k 0 → ∃ x ∈ E, ∃ w b, ovr x k = some (w, b) ∧ s.1.getD w 0 = s.1.getD k 0 - 1
 nd : (dn ++ s.2).Nodup
 mem : ∀ v ∈ dn ++ s.2, v < N ∧ 0 ≤ s.1.getD v 0
 srt : s.2.Pairwise fun a b => s.1.getD a 0 ≤ s.1.getD b 0
 top : ∀ h, s.2.head? = some h → ∀ k, k < N → s.1.getD k 0 ≤ s.1.getD h 0 + 1
 cl : ∀ k, k < N → 0 ≤ s.1.getD k 0 → k ∉ s.2 → ∀ x ∈ E, ∀ w b, ovr x k = some (w, b) → 0 ≤ s.1.getD w 0 ∧ s.1.getD w 0 ≤ s.1.getD k 0 + 1
structure JInv (N : Nat) (E : List (Seg × Bool)) (t a : Nat) (L : Int) (dn : List Nat) (P : List (Seg × Bool)) (s : List Int × List Nat) : Prop where
 len : s.1.length = N
 lo : ∀ k, k < N → -1 ≤ s.1.getD k 0
 z : ∀ k, k < N → (s.1.getD k 0 = 0 ↔ k = t)
 back : ∀ k, k < N → 0 < s.1.getD k 0 → ∃ x ∈ E, ∃ w b, ovr x k = some (w, b) ∧ s.1.getD w 0 = s.1.getD k 0 - 1
 nd : (dn ++ s.2).Nodup
 mem : ∀ v ∈ dn ++ s.2, v < N ∧ 0 ≤ s.1.getD v 0
 srt : s.2.Pairwise fun a b => s.1.getD a 0 ≤ s.1.getD b 0
 at' : a < N ∧ s.1.getD a 0 = L ∧ 0 ≤ L
 topL : ∀ k, k < N → s.1.getD k 0 ≤ L + 1
 low : ∀ v ∈ s.2, L ≤ s.1.getD v 0
 cl : ∀ k, k < N → 0 ≤ s.1.getD k 0 → k ∉ s.2 → k ≠ a → ∀ x ∈ E, ∀ w b, ovr x k = some (w, b) → 0 ≤ s.1.getD w 0 ∧ s.1.getD w 0 ≤ s.1.getD k 0 + 1
 dn' : ∀ x ∈ P, ∀ w b, ovr x a = some (w, b) → 0 ≤ s.1.getD w 0
theorem JInv.step {N : Nat} {E : List (Seg × Bool)} {t a : Nat} {L : Int} {dn : List Nat} {P : List (Seg × Bool)} {s : List Int × List Nat} (hE : ∀ x ∈ E, SgIn N x) (h : JInv N E t a L dn P s) {y : Seg × Bool} (hy : y ∈ E) : JInv N E t a L dn (P ++ [y]) (bstep a s y) := by
 have same : (∀ w b, ovr y a = some (w, b) → 0 ≤ s.1.getD w 0) → JInv N E t a L dn (P ++ [y]) s := fun hw =>
  ⟨h.len, h.lo, h.z, h.back, h.nd, h.mem, h.srt, h.at', h.topL, h.low, h.cl, fun x hx w b e => by
   rcases List.mem_append.1 hx with h1 | h1
   ·exact h.dn' x h1 w b e
   ·rw [List.mem_singleton.1 h1] at e; exact hw w b e⟩
 unfold bstep
 split
 ·rename_i w b e
  obtain ⟨hw, ha⟩ := ovr_lt (hE y hy) e
  obtain ⟨b', e'⟩ := ovr_sym (hE y hy) e
  obtain ⟨_, hL, hL0⟩ := h.at'
  have hl := h.len
  split
  ·rename_i hn
   rw [hL]
   have g : ∀ k, (s.1.set w (L + 1)).getD k 0 = if w = k then L + 1 else s.1.getD k 0 := fun k => getD_seti _ _ _ _ (by omega)
   have g0 : ∀ k, 0 ≤ s.1.getD k 0 → (s.1.set w (L + 1)).getD k 0 = s.1.getD k 0 := fun k hk => by
    rw [g, if_neg]
    intro e; subst e; omega
   have hwn : w ∉ dn ++ s.2 := fun hm => by have := (h.mem w hm).2; omega
   refine ⟨by dsimp only; rw [List.length_set]; exact hl, fun k hk => ?_, fun k hk => ?_, fun k hk hp => ?_, ?_, fun v hv => ?_, ?_, ⟨ha, by dsimp only; rw [g0 a (by omega)]; exact hL, hL0⟩, fun k hk => ?_, fun v hv => ?_, fun k hk hp hq hka x hx w' b2 ex => ?_, fun x hx w' b2 ex => ?_⟩ <;> dsimp only at *
   ·rw [g]
    have := h.lo k hk
    split <;> omega
   ·rw [g]
    have := h.z k hk
    split
    ·rename_i ek
     subst ek
     refine ⟨fun hh => by omega, fun hh => ?_⟩
     have := this.2 hh
     omega
    ·exact this
   ·rw [g] at hp
    rw [g]
    split at hp
    ·rename_i ek
     subst ek
     rw [if_pos rfl]
     exact ⟨y, hy, a, b', e', by rw [g0 a (by omega)]; omega⟩
    ·rename_i ek
     rw [if_neg ek]
     obtain ⟨x, hx, w', b2, e1, e2⟩ := h.back k hk hp
     exact ⟨x, hx, w', b2, e1, by rw [g0 w' (by omega)]; exact e2⟩
   ·rw [← List.append_assoc]
    exact List.nodup_append.2 ⟨h.nd, List.nodup_cons.2 ⟨List.not_mem_nil, List.nodup_nil⟩, fun x hx y2 hy2 e2 => by
     rw [List.mem_singleton.1 hy2] at e2
     subst e2
     exact hwn hx⟩
   ·rw [← List.append_assoc] at hv
    rcases List.mem_append.1 hv with h1 | h1
    ·obtain ⟨q1, q2⟩ := h.mem v h1
     exact ⟨q1, by rw [g0 v q2]; exact q2⟩
    ·rw [List.mem_singleton.1 h1]
     exact ⟨hw, by rw [g, if_pos rfl]; omega⟩
   ·have pos : ∀ v ∈ s.2, 0 ≤ s.1.getD v 0 := fun v hv => (h.mem v (List.mem_append_right _ hv)).2
    refine List.pairwise_append.2 ⟨List.Pairwise.imp_of_mem (fun {p q} hp hq hpq => by rw [g0 p (pos p hp), g0 q (pos q hq)]; exact hpq) h.srt, List.pairwise_singleton _ _, fun p hp q hq => ?_⟩
    rw [List.mem_singleton.1 hq, g0 p (pos p hp), g, if_pos rfl]
    exact h.topL p (h.mem p (List.mem_append_right _ hp)).1
   ·rw [g]
    have := h.topL k hk
    split <;> omega
   ·rcases List.mem_append.1 hv with h1 | h1
    ·rw [g0 v (h.mem v (List.mem_append_right _ h1)).2]
     exact h.low v h1
    ·rw [List.mem_singleton.1 h1, g, if_pos rfl]
     omega
   ·have hkw : w ≠ k := fun ek => hq (List.mem_append_right _ (by rw [ek]; exact List.mem_singleton_self _))
    rw [g, if_neg hkw] at hp
    rw [g k, if_neg hkw]
    obtain ⟨q1, q2⟩ := h.cl k hk hp (fun hm => hq (List.mem_append_left _ hm)) hka x hx w' b2 ex
    rw [g0 w' q1]
    exact ⟨q1, q2⟩
   ·rcases List.mem_append.1 hx with h1 | h1
    ·have := h.dn' x h1 w' b2 ex
     rw [g0 w' this]; exact this
    ·rw [List.mem_singleton.1 h1, e] at ex
     cases ex
     rw [g, if_pos rfl]
     omega
  ·rename_i hn
   refine same fun w' b2 e2 => ?_
   rw [e] at e2
   cases e2
   omega
 ·rename_i e
  exact same fun w b e2 => by rw [e] at e2; cases e2
theorem JInv.all {N : Nat} {E : List (Seg × Bool)} {t a : Nat} {L : Int} {dn : List Nat} (hE : ∀ x ∈ E, SgIn N x) : ∀ (F P : List (Seg × Bool)) (s : List Int × List Nat), (∀ x ∈ F, x ∈ E) → JInv N E t a L dn P s → JInv N E t a L dn (P ++ F) (F.foldl (bstep a) s)
 | [], P, s, _, h => by rw [List.append_nil]; exact h
 | y :: F, P, s, hF, h => by
  have := JInv.all hE F (P ++ [y]) (bstep a s y) (fun x hx => hF x (List.mem_cons_of_mem _ hx)) (h.step hE (hF y (List.mem_cons_self ..)))
  rw [List.append_assoc] at this
  exact this
theorem BInv.round {N : Nat} {E : List (Seg × Bool)} {t : Nat} {dn : List Nat} {s : List Int × List Nat} (hE : ∀ x ∈ E, SgIn N x) (h : BInv N E t dn s) {a : Nat} {q : List Nat} (hq : s.2 = a :: q) : BInv N E t (dn ++ [a]) (bround E s) := by
 have ha := h.mem a (by rw [hq]; simp)
 have hs := h.srt
 have hnd := h.nd
 have hm := h.mem
 have hcl := h.cl
 have htop := h.top a (by rw [hq]; rfl)
 rw [hq] at hs hnd hm hcl
 have e : dn ++ a :: q = (dn ++ [a]) ++ q := by simp
 have hj : JInv N E t a (s.1.getD a 0) (dn ++ [a]) [] (s.1, q) :=
  ⟨h.len, h.lo, h.z, h.back, by dsimp only; rw [← e]; exact hnd, fun v hv => hm v (by rw [e]; exact hv), (List.pairwise_cons.1 hs).2, ⟨ha.1, rfl, ha.2⟩, htop, (List.pairwise_cons.1 hs).1,
   fun k hk h0 hkq hka => hcl k hk h0 (fun hh => by rcases List.mem_cons.1 hh with h1 | h1; exact hka h1; exact hkq h1), fun x hx => by cases hx⟩
 have hall := JInv.all hE E [] (s.1, q) (fun x hx => hx) hj
 rw [List.nil_append] at hall
 have er : bround E s = E.foldl (bstep a) (s.1, q) := by unfold bround; rw [hq]
 rw [er]
 generalize E.foldl (bstep a) (s.1, q) = r at hall
 obtain ⟨_, hL, hL0⟩ := hall.at'
 refine ⟨hall.len, hall.lo, hall.z, hall.back, hall.nd, hall.mem, hall.srt, fun hd hh k hk => ?_, fun k hk h0 hkq x hx w b ex => ?_⟩
 ·have h1 := hall.topL k hk
  have h2 := hall.low hd (List.mem_of_mem_head? hh)
  omega
 ·by_cases hka : k = a
  ·subst hka
   have h1 := hall.dn' x hx w b ex
   have h2 := hall.topL w (ovr_lt (hE x hx) ex).1
   exact ⟨h1, by omega⟩
  ·exact hall.cl k hk h0 hkq hka x hx w b ex
theorem bst_inv {N : Nat} {E : List (Seg × Bool)} {t : Nat} (hE : ∀ x ∈ E, SgIn N x) (ht : t < N) : ∀ i, ∃ dn, BInv N E t dn (bst E N t i) ∧ (dn.length = i ∨ (bst E N t i).2 = [])
 | 0 => by
  have g : ∀ k, k < N → ((List.replicate N (-1 : Int)).set t 0).getD k 0 = if t = k then 0 else -1 := fun k hk => by
   rw [getD_seti _ _ _ _ (by simpa using ht)]
   split
   ·rfl
   ·rw [List.getD_eq_getElem?_getD, List.getElem?_replicate, if_pos hk]; rfl
  refine ⟨[], ⟨by simp [bst], fun k hk => ?_, fun k hk => ?_, fun k hk h0 => ?_, by simp [bst], fun v hv => ?_, by simp [bst], fun hd hh k hk => ?_, fun k hk h0 hkq => ?_⟩, .inl rfl⟩ <;> simp only [bst] at *
  ·rw [g k hk]; split <;> omega
  ·rw [g k hk]
   split
   ·rename_i e; exact ⟨fun _ => e.symm, fun _ => rfl⟩
   ·rename_i e; exact ⟨fun h => by omega, fun h => absurd h.symm e⟩
  ·rw [g k hk] at h0; split at h0 <;> omega
  ·rw [List.nil_append, List.mem_singleton] at hv
   subst hv
   rw [g v ht, if_pos rfl]
   exact ⟨ht, Int.le_refl _⟩
  ·simp at hh
   subst hh
   rw [g k hk, g t ht, if_pos rfl]
   split <;> omega
  ·rw [g k hk] at h0
   split at h0
   ·rename_i e; subst e; simp at hkq
   ·omega
 | i + 1 => by
  obtain ⟨dn, h, hd⟩ := bst_inv hE ht i
  cases hq : (bst E N t i).2 with
  | nil =>
   have e : bst E N t (i + 1) = bst E N t i := by show bround E (bst E N t i) = _; unfold bround; rw [hq]
   rw [e]
   exact ⟨dn, h, .inr hq⟩
  | cons a q =>
   refine ⟨dn ++ [a], h.round hE hq, .inl ?_⟩
   rcases hd with h1 | h1
   ·rw [List.length_append, h1]; rfl
   ·rw [h1] at hq; cases hq
theorem bst_len {N : Nat} {E : List (Seg × Bool)} {t : Nat} (hE : ∀ x ∈ E, SgIn N x) (ht : t < N) (i : Nat) : (bst E N t i).2 = [] ∨ i + (bst E N t i).2.length ≤ N := by
 obtain ⟨dn, h, hd⟩ := bst_inv hE ht i
 rcases hd with h1 | h1
 ·right
  have := List.Nodup.length_le_of_subset h.nd (l₂ := List.range N) fun v hv => List.mem_range.2 (h.mem v hv).1
  rw [List.length_append, List.length_range] at this
  omega
 ·exact .inl h1
theorem bst_stop {N : Nat} {E : List (Seg × Bool)} {t i : Nat} (h : (bst E N t i).2 = []) : ∀ m, bst E N t (i + m) = bst E N t i
 | 0 => rfl
 | m + 1 => by
  show bround E (bst E N t (i + m)) = _
  rw [bst_stop h m]
  unfold bround
  rw [h]
def hopsL (n : Net) (c : List Bool) (t : Nat) : List Int := (bst (n.segs.zip c) n.nodes.length t n.nodes.length).1
theorem bst_end {N : Nat} {E : List (Seg × Bool)} {t i : Nat} (hE : ∀ x ∈ E, SgIn N x) (ht : t < N) (hi : i ≤ N) (h : (bst E N t i).2 = []) : (bst E N t N).1 = (bst E N t i).1 := by
 have := bst_stop h (N - i)
 rw [show i + (N - i) = N by omega] at this
 rw [this]
theorem hops_isD {n : Net} {c : List Bool} {t : Nat} (hE : ∀ x ∈ n.segs.zip c, SgIn n.nodes.length x) (ht : t < n.nodes.length) : IsD n.nodes.length (n.segs.zip c) t (hopsL n c t) := by
 obtain ⟨dn, h, _⟩ := bst_inv hE ht n.nodes.length
 have hq : (bst (n.segs.zip c) n.nodes.length t n.nodes.length).2 = [] := by
  rcases bst_len hE ht n.nodes.length with h1 | h1
  ·exact h1
  ·exact List.length_eq_zero_iff.1 (by omega)
 exact ⟨h.len, h.lo, h.z, fun x hx u w b e h0 => h.cl u (ovr_lt (hE x hx) e).2 h0 (by rw [hq]; simp) x hx w b e, h.back⟩
def pickF (D : List Int) (a : Nat) : Nat → List (Seg × Bool) → Option (Nat × Nat × Bool)
 | _, [] => Option.none
 | k, x :: E => match ovr x a with
  | some (w, b) => if D.getD w 0 = D.getD a 0 - 1 then some (k, w, b) else pickF D a (k + 1) E
  | Option.none => pickF D a (k + 1) E
theorem pickF_spec {D : List Int} {a : Nat} : ∀ {E : List (Seg × Bool)} {k j w : Nat} {b : Bool}, pickF D a k E = some (j, w, b) → k ≤ j ∧ (∃ x, E[j - k]? = some x ∧ ovr x a = some (w, b)) ∧ D.getD w 0 = D.getD a 0 - 1 ∧ ∀ i, i < j - k → ∀ y, E[i]? = some y → ∀ w' b', ovr y a = some (w', b') → D.getD w' 0 ≠ D.getD a 0 - 1
 | [], k, j, w, b, h => by cases h
 | x :: E, k, j, w, b, h => by
  have rec' : pickF D a (k + 1) E = some (j, w, b) → (∀ w' b', ovr x a = some (w', b') → D.getD w' 0 ≠ D.getD a 0 - 1) → (k ≤ j ∧ (∃ y, (x :: E)[j - k]? = some y ∧ ovr y a = some (w, b)) ∧ D.getD w 0 = D.getD a 0 - 1 ∧ ∀ i, i < j - k → ∀ y, (x :: E)[i]? = some y → ∀ w' b', ovr y a = some (w', b') → D.getD w' 0 ≠ D.getD a 0 - 1) := fun h hx => by
   obtain ⟨q1, ⟨y, q2, q3⟩, q4, q5⟩ := pickF_spec h
   refine ⟨by omega, ⟨y, ?_, q3⟩, q4, fun i hi z hz => ?_⟩
   ·rw [show j - k = (j - (k + 1)) + 1 by omega, List.getElem?_cons_succ]; exact q2
   ·cases i with
    | zero => rw [List.getElem?_cons_zero] at hz; cases hz; exact hx
    | succ i => rw [List.getElem?_cons_succ] at hz; exact q5 i (by omega) z hz
  unfold pickF at h
  split at h
  ·rename_i w0 b0 e
   split at h
   ·rename_i hd
    cases h
    refine ⟨Nat.le_refl _, ⟨x, by rw [Nat.sub_self]; rfl, e⟩, hd, fun i hi => absurd hi (by omega)⟩
   ·rename_i hd
    exact rec' h fun w' b' e' => by rw [e] at e'; cases e'; exact hd
  ·rename_i e
   exact rec' h fun w' b' e' => by rw [e] at e'; cases e'
theorem pickF_none {D : List Int} {a : Nat} : ∀ {E : List (Seg × Bool)} {k : Nat}, pickF D a k E = Option.none → ∀ y ∈ E, ∀ w b, ovr y a = some (w, b) → D.getD w 0 ≠ D.getD a 0 - 1
 | x :: E, k, h, y, hy, w, b, e => by
  unfold pickF at h
  have two : pickF D a (k + 1) E = Option.none → (∀ w b, ovr x a = some (w, b) → D.getD w 0 ≠ D.getD a 0 - 1) → D.getD w 0 ≠ D.getD a 0 - 1 := fun h hx => by
   rcases List.mem_cons.1 hy with h1 | h1
   ·subst h1; exact hx w b e
   ·exact pickF_none h y h1 w b e
  split at h
  ·rename_i w0 b0 e0
   split at h
   ·cases h
   ·rename_i hd
    exact two h fun w' b' e' => by rw [e0] at e'; cases e'; exact hd
  ·rename_i e0
   exact two h fun w' b' e' => by rw [e0] at e'; cases e'
def wayL (E : List (Seg × Bool)) (D : List Int) : Nat → Nat → List (Int × Bool)
 | 0, _ => []
 | f + 1, a => match pickF D a 0 E with
  | some (k, w, b) => ((k : Int), b) :: wayL E D f w
  | Option.none => []
inductive WayP (E : List (Seg × Bool)) : Nat → List (Int × Bool) → Nat → Prop where
 | nil (a : Nat) : WayP E a [] a
 | cons {k : Nat} {x : Seg × Bool} {a w c : Nat} {b : Bool} {l : List (Int × Bool)} (hk : E[k]? = some x) (e : ovr x a = some (w, b)) (h : WayP E w l c) : WayP E a (((k : Int), b) :: l) c
theorem IsD.pick {N : Nat} {E : List (Seg × Bool)} {t : Nat} {D : List Int} (h : IsD N E t D) {a m : Nat} (ha : a < N) (hm : D.getD a 0 = (m + 1 : Nat)) : ∃ k w b, pickF D a 0 E = some (k, w, b) := by
 cases e : pickF D a 0 E with
 | some r => exact ⟨r.1, r.2.1, r.2.2, rfl⟩
 | none =>
  exfalso
  obtain ⟨x, hx, w, b, e1, e2⟩ := h.back a ha (by omega)
  exact pickF_none e x hx w b e1 e2
theorem way_spec {N : Nat} {E : List (Seg × Bool)} {t : Nat} {D : List Int} (hE : ∀ x ∈ E, SgIn N x) (h : IsD N E t D) : ∀ (m a : Nat), a < N → D.getD a 0 = m → WayP E a (wayL E D m a) t ∧ (wayL E D m a).length = m
 | 0, a, ha, hm => by rw [(h.z a ha).1 hm]; exact ⟨.nil t, rfl⟩
 | m + 1, a, ha, hm => by
  obtain ⟨k, w, b, e⟩ := h.pick ha hm
  obtain ⟨_, ⟨x, q2, q3⟩, q4, _⟩ := pickF_spec e
  rw [Nat.sub_zero] at q2
  have hw := (ovr_lt (hE x (List.mem_of_getElem? q2)) q3).1
  obtain ⟨r1, r2⟩ := way_spec hE h m w hw (by omega)
  unfold wayL
  rw [e]
  exact ⟨.cons q2 q3 r1, by dsimp only; rw [List.length_cons, r2]⟩
theorem WayP.hops {E : List (Seg × Bool)} {a c : Nat} {l : List (Int × Bool)} (h : WayP E a l c) : Hops E a c l.length := by
 induction h with
 | nil a => exact .nil a
 | cons hk e h ih => exact .cons (List.mem_of_getElem? hk) e ih
structure RtOk (n : Net) (c : List Bool) : Prop where
 l : c.length = n.segs.length
 s : ∀ x ∈ n.segs.zip c, SgIn n.nodes.length x
def wayW (n : Net) (c : List Bool) (a t : Nat) : List (Int × Bool) := wayL (n.segs.zip c) (hopsL n c t) ((hopsL n c t).getD a 0).toNat a
theorem RtOk.isD {n : Net} {c : List Bool} (h : RtOk n c) {t : Nat} (ht : t < n.nodes.length) : IsD n.nodes.length (n.segs.zip c) t (hopsL n c t) := hops_isD h.s ht
theorem RtOk.way {n : Net} {c : List Bool} (h : RtOk n c) {a t : Nat} (ha : a < n.nodes.length) (ht : t < n.nodes.length) (h0 : 0 ≤ (hopsL n c t).getD a 0) : WayP (n.segs.zip c) a (wayW n c a t) t ∧ ((wayW n c a t).length : Int) = (hopsL n c t).getD a 0 := by
 obtain ⟨r1, r2⟩ := way_spec h.s (h.isD ht) ((hopsL n c t).getD a 0).toNat a ha (by omega)
 exact ⟨r1, by unfold wayW; rw [r2]; omega⟩
def joinB (n : Net) (c : List Bool) (a b : Nat) : Prop := 0 ≤ (hopsL n c a).getD b 0
theorem RtOk.join {n : Net} {c : List Bool} (h : RtOk n c) {a b : Nat} (ha : a < n.nodes.length) (hb : b < n.nodes.length) : joinB n c a b ↔ ∃ m, Hops (n.segs.zip c) a b m := by
 unfold joinB
 refine ⟨fun h0 => ?_, fun ⟨m, hm⟩ => ((h.isD ha).le h.s ha hm).1⟩
 obtain ⟨v, hv⟩ : ∃ v : Nat, (hopsL n c a).getD b 0 = v := ⟨((hopsL n c a).getD b 0).toNat, by omega⟩
 exact ⟨v, ((h.isD ha).hops h.s v b hb hv).symm h.s⟩
def rL (n : Net) (c : List Bool) (k : Nat) : List Nat := (List.range n.nodes.length).filter fun j => decide (0 ≤ (hopsL n c k).getD j 0)
theorem RtOk.mem_rL {n : Net} {c : List Bool} (h : RtOk n c) {k j : Nat} (hk : k < n.nodes.length) : j ∈ rL n c k ↔ j < n.nodes.length ∧ ∃ m, Hops (n.segs.zip c) k j m := by
 unfold rL
 rw [List.mem_filter, List.mem_range, decide_eq_true_eq]
 exact ⟨fun ⟨h1, h2⟩ => ⟨h1, (h.join hk h1).1 h2⟩, fun ⟨h1, h2⟩ => ⟨h1, (h.join hk h1).2 h2⟩⟩
def rootB (n : Net) (c : List Bool) (k : Nat) : Bool := (rL n c k).getD 0 0 == k
def partsL (n : Net) (c : List Bool) : List (List Nat) := ((List.range n.nodes.length).filter (rootB n c)).map (rL n c)
def frOf (x : Seg × Int) : Int := if x.2 < 0 then x.1.to else x.1.fr
def toOf (x : Seg × Int) : Int := if x.2 < 0 then x.1.fr else x.1.to
theorem blk_eq (th : List Bool) (k : Nat) (x : Seg × Int) : blk th k x = true ↔ x.2 ≠ 0 ∧ toOf x = k ∧ th.getD (frOf x).toNat false = false := by
 unfold blk
 by_cases h : x.2 = 0
 ·rw [if_pos (beq_iff_eq.2 h)]
  simp [h]
 ·rw [if_neg (fun e => h (beq_iff_eq.1 e))]
  by_cases h2 : toOf x = (k : Int)
  ·have h3 : ((if x.2 < 0 then x.1.fr else x.1.to) == (k : Int)) = true := beq_iff_eq.2 h2
   rw [if_pos h3]
   simp [h, h2, frOf]
  ·have h3 : ¬ ((if x.2 < 0 then x.1.fr else x.1.to) == (k : Int)) = true := fun e => h2 (beq_iff_eq.1 e)
   rw [if_neg h3]
   simp [h2]
theorem pick_iff (E : List (Seg × Int)) (th : List Bool) (k : Nat) : pickB E th k = true ↔ th.getD k true = false ∧ ∀ x ∈ E, x.2 ≠ 0 → toOf x = k → th.getD (frOf x).toNat false = true := by
 unfold pickB
 split
 ·rename_i h; simp at h ⊢; simp [h]
 ·rename_i h
  constructor
  ·intro ha
   refine ⟨by simpa using h, fun x hx h1 h2 => ?_⟩
   cases h3 : th.getD (frOf x).toNat false with
   | true => rfl
   | false =>
    have := List.any_eq_true.2 ⟨x, hx, (blk_eq th k x).2 ⟨h1, h2, h3⟩⟩
    rw [this] at ha
    cases ha
  ·rintro ⟨h1, h2⟩
   have : E.any (blk th k) = false := by
    rw [List.any_eq_false]
    intro x hx hb
    obtain ⟨b1, b2, b3⟩ := (blk_eq th k x).1 hb
    rw [h2 x hx b1 b2] at b3
    cases b3
   rw [this]
   rfl
structure OrdInv (E : List (Seg × Int)) (N : Nat) (th : List Bool) (out : List Nat) : Prop where
 len : th.length = N
 mem : ∀ j, th.getD j false = true ↔ j ∈ out
 nd : out.Nodup
 cnt : cntF th + out.length = N
 good : ∀ q k : Nat, out[q]? = some k → ∀ x ∈ E, x.2 ≠ 0 → toOf x = (k : Int) → ∃ q' k' : Nat, q' < q ∧ out[q']? = some k' ∧ frOf x = (k' : Int)
def EdgeIn (E : List (Seg × Int)) (N : Nat) : Prop := ∀ x ∈ E, (0 ≤ x.1.fr ∧ x.1.fr < N) ∧ 0 ≤ x.1.to ∧ x.1.to < N
theorem fr_in {E : List (Seg × Int)} {N : Nat} (h : EdgeIn E N) {x : Seg × Int} (hx : x ∈ E) : 0 ≤ frOf x ∧ frOf x < N := by
 have := h x hx
 unfold frOf
 split <;> omega
theorem OrdInv.lt {E : List (Seg × Int)} {N : Nat} {th : List Bool} {out : List Nat} (h : OrdInv E N th out) {j : Nat} (hj : j ∈ out) : j < N := by
 have := (h.mem j).2 hj
 rw [List.getD_eq_getElem?_getD] at this
 rcases Nat.lt_or_ge j th.length with h1 | h1
 ·rw [← h.len]; exact h1
 ·rw [List.getElem?_eq_none h1] at this; cases this
theorem OrdInv.step {E : List (Seg × Int)} {N : Nat} {th : List Bool} {out : List Nat} (h : OrdInv E N th out) (hE : EdgeIn E N) {k : Nat} (hk : pickB E th k = true) : OrdInv E N (th.set k true) (out ++ [k]) := by
 obtain ⟨h1, h2⟩ := (pick_iff E th k).1 hk
 have hs := getD_none h1
 have hkl : k < th.length := by
  rcases Nat.lt_or_ge k th.length with h | h
  ·exact h
  ·rw [List.getElem?_eq_none h] at hs; cases hs
 have hno : k ∉ out := fun hm => by
  have := (h.mem k).2 hm
  rw [List.getD_eq_getElem?_getD, hs] at this
  cases this
 refine ⟨by rw [List.length_set]; exact h.len, fun j => ?_, ?_, ?_, fun q j hj x hx hr ht => ?_⟩
 ·rw [List.getD_eq_getElem?_getD, List.getElem?_set, List.mem_append, List.mem_singleton, ← h.mem j, List.getD_eq_getElem?_getD]
  by_cases e : k = j
  ·subst e; simp [hkl]
  ·simp [e, Ne.symm e]
 ·rw [List.nodup_append]
  exact ⟨h.nd, by simp, fun a ha b hb => by rw [List.mem_singleton.1 hb]; exact fun e => hno (e ▸ ha)⟩
 ·have := cntF_set th k hs
  have := h.cnt
  rw [List.length_append, List.length_singleton]
  omega
 ·rcases Nat.lt_or_ge q out.length with hq | hq
  ·rw [List.getElem?_append_left hq] at hj
   obtain ⟨q', k', a, b, c⟩ := h.good q j hj x hx hr ht
   exact ⟨q', k', a, by rw [List.getElem?_append_left (by omega)]; exact b, c⟩
  ·have hj2 : j = k := by
    rw [List.getElem?_append_right hq] at hj
    cases e : q - out.length with
    | zero => rw [e] at hj; cases hj; rfl
    | succ => rw [e] at hj; simp at hj
   subst hj2
   have h3 := h2 x hx hr ht
   have h4 := (h.mem _).1 h3
   obtain ⟨q', hq'⟩ := List.getElem?_of_mem h4
   have hl : q' < out.length := by
    rcases Nat.lt_or_ge q' out.length with h | h
    ·exact h
    ·rw [List.getElem?_eq_none h] at hq'; cases hq'
   exact ⟨q', _, by omega, by rw [List.getElem?_append_left hl]; exact hq', by have := (fr_in hE hx).1; omega⟩
def UpOk (x : Seg × Int) : Prop := x.2 ≠ 0 → frOf x < toOf x
def DownOk (x : Seg × Int) : Prop := x.2 ≠ 0 → toOf x < frOf x
end Go.Proofs.Ytadjhfjiimgddaa

/- Flow: ends, amounts. -/
/- Flow: ends, amounts. -/
namespace Go.Proofs.Ytadjhfjiimgddaa
open Go
def zeros : List D := [di 0, di 0, di 0, di 0, di 0, di 0, di 0, di 0, di 0, di 0, di 0, di 0, di 0, di 0, di 0, di 0, di 0, di 0, di 0, di 0, di 0, di 0, di 0, di 0, di 0, di 0, di 0, di 0, di 0, di 0, di 0, di 0, di 0, di 0, di 0, di 0, di 0, di 0, di 0, di 0, di 0, di 0, di 0, di 0, di 0, di 0, di 0, di 0]
theorem iRow_at (R : List Int) (j : Nat) (h : j < R.length) : (R.map iRow).getD j [] = [di R[j]] := by rw [getD_map iRow R j h]; rfl
def nRow (k : Nat) : List D := [di (k : Int)]
structure OI (n : Net) (p : Pln) (th : List Bool) (out : List Nat) (k : Nat) : Prop where
 tl : th.length = n.nodes.length
 kl : k ≤ n.nodes.length
 cnt : cntF th + out.length = n.nodes.length
 res : ordL (n.segs.zip p.rates) (cntF th) th out = ordB n p
 no : ∀ j, j < k → pickB (n.segs.zip p.rates) th j = false
theorem OI.skip {n : Net} {p : Pln} {th : List Bool} {out : List Nat} {k : Nat} (h : OI n p th out k) (hk : k < n.nodes.length) (hp : pickB (n.segs.zip p.rates) th k = false) : OI n p th out (k + 1) :=
 ⟨h.tl, hk, h.cnt, h.res, fun j hj => by
  rcases Nat.lt_or_ge j k with h1 | h1
  ·exact h.no j h1
  ·obtain rfl : j = k := by omega
   exact hp⟩
theorem OI.pick {n : Net} {p : Pln} {th : List Bool} {out : List Nat} {k : Nat} (h : OI n p th out k) (hp : pickB (n.segs.zip p.rates) th k = true) : OI n p (th.set k true) (out ++ [k]) 0 ∧ cntF (th.set k true) + 1 = cntF th := by
 have hs := getD_none ((pick_iff _ th k).1 hp).1
 have hc := cntF_set th k hs
 refine ⟨⟨by rw [List.length_set]; exact h.tl, Nat.zero_le _, ?_, ?_, fun j hj => absurd hj (Nat.not_lt_zero j)⟩, hc⟩
 ·have := h.cnt
  rw [List.length_append, List.length_singleton]
  omega
 ·rw [← h.res]
  exact (ord_pick h.no hp).symm
theorem zip_get {α β : Type} {l : List α} {m : List β} {i : Nat} (h1 : i < l.length) (h2 : i < m.length) : (l.zip m)[i]? = some (l[i], m[i]) := by
 rw [List.getElem?_zip_eq_some]
 exact ⟨List.getElem?_eq_getElem h1, List.getElem?_eq_getElem h2⟩
structure NetV (n : Net) : Prop where
 nl : 1 ≤ n.nodes.length ∧ n.nodes.length ≤ 24
 sl : n.segs.length ≤ 32
 ql : n.ports.length ≤ 24
 tl : n.sts.length ≤ 12
 se : ∀ s ∈ n.segs, (0 ≤ s.fr ∧ s.fr < n.nodes.length) ∧ (0 ≤ s.to ∧ s.to < n.nodes.length) ∧ s.fr ≠ s.to ∧ 1 ≤ s.cap ∧ s.cap ≤ 1000000
 pe : ∀ x ∈ n.ports, 0 ≤ x.node ∧ x.node < n.nodes.length
 te : ∀ x ∈ n.sts, 0 ≤ x.node ∧ x.node < n.nodes.length
theorem any_f {α : Type} {p : α → Bool} {l : List α} (h : l.any p = false) {x : α} (hx : x ∈ l) : p x = false := by
 cases e : p x with
 | false => rfl
 | true => rw [List.any_eq_true.2 ⟨x, hx, e⟩] at h; cases h
theorem inB_of {a b c : Int} (h : inB a b c = true) : b ≤ a ∧ a ≤ c := by
 unfold inB at h
 split at h
 ·rename_i h1; exact ⟨by simpa using h1, by simpa using h⟩
 ·cases h
theorem check0 {n : Net} (h : checkI n = 0) : NetV n := by
 unfold checkI at h
 split at h
 ·rename_i hl
  split at h
  ·cases h
  ·split at h
   ·cases h
   ·split at h
    ·rename_i hk
     split at h
     ·rename_i hp
      unfold limB at hl
      split at hl; · cases hl
      split at hl; · cases hl
      split at hl; · cases hl
      split at hl; · cases hl
      split at hl; · cases hl
      unfold knB at hk
      have hk2 : (allIx n).any (unk n) = false := by simpa using hk
      have inN : ∀ k ∈ allIx n, 0 ≤ k ∧ k < n.nodes.length := fun k hk => by
       have := any_f hk2 hk
       unfold unk at this
       split at this
       ·cases this
       ·rename_i h1
        simp at h1 this
        omega
      unfold prB at hp
      split at hp; · cases hp
      rename_i hs
      have hs2 : n.segs.any segBad = false := by simpa using hs
      refine ⟨by omega, by omega, by omega, by omega, fun s hm => ⟨inN _ ?_, inN _ ?_, ?_⟩, fun x hm => inN _ ?_, fun x hm => inN _ ?_⟩
      ·exact List.mem_append_left _ (List.mem_append_left _ (List.mem_flatMap.2 ⟨s, hm, by simp [endsOf]⟩))
      ·exact List.mem_append_left _ (List.mem_append_left _ (List.mem_flatMap.2 ⟨s, hm, by simp [endsOf]⟩))
      ·have := any_f hs2 hm
       unfold segBad at this
       have hp : pipeB s = true := by simpa using this
       unfold pipeB at hp
       split at hp; · cases hp
       rename_i h1
       split at hp
       ·rename_i h2
        exact ⟨by simpa using h1, inB_of h2⟩
       ·cases hp
      ·exact List.mem_append_left _ (List.mem_append_right _ (List.mem_map.2 ⟨x, hm, rfl⟩))
      ·exact List.mem_append_right _ (List.mem_map.2 ⟨x, hm, rfl⟩)
     ·cases h
    ·cases h
 ·cases h
def most (s : Seg) : Int := if s.cap < 1000 then s.cap else 1000
end Go.Proofs.Ytadjhfjiimgddaa

/- Ways through a network: the library's functions, and those of one segment. -/
namespace Go.Proofs.Ytadjhfjiimgddaa
open Go
theorem mask32 {y : Int} (h : 0 ≤ y ∧ y < 4294967296) : ((BitVec.ofInt 64 y &&& BitVec.ofInt 64 4294967295).toNat : Int) = y := by
 obtain ⟨n, rfl⟩ : ∃ n : Nat, y = n := ⟨y.toNat, by omega⟩
 have e : (BitVec.ofInt 64 (n : Int)).toNat = n := by
  rw [BitVec.ofInt_natCast, BitVec.toNat_ofNat]
  exact Nat.mod_eq_of_lt (by omega)
 have e2 : (BitVec.ofInt 64 (4294967295 : Int)).toNat = 2 ^ 32 - 1 := rfl
 rw [BitVec.toNat_and, e, e2, Nat.and_two_pow_sub_one_eq_mod, Nat.mod_eq_of_lt (by omega)]
theorem wrap_u {y : Int} (h : 0 ≤ y ∧ y < 18446744073709551616) : IntKind.u64.wrap y = y := by
 unfold IntKind.wrap
 simp [IntKind.bits, IntKind.signed]
 omega
theorem div32 {y : Int} (h : 0 ≤ y ∧ y < 4294967296) : y.fdiv 4294967296 = 0 := by
 rw [Int.fdiv_eq_ediv_of_nonneg _ (by omega)]
 omega
abbrev du (n : Int) : D := .v (.int .u64 n)
theorem Mul64_c (y : Int) (hy : 0 ≤ y ∧ y < 4294967296) (nn : Nm) : CallsA Try.prog 180 [du 1, du y] Hp.none nn (Pu (.tup [du 0, du y]) Hp.none) := by
 obtain ⟨code, h1, h2⟩ := c180_ok
 refine callsA_of (T0_ok _) mixed (N := fun t => (0, t)) Try.func180 h1 h2 r180_ok [] false js_nil js_nil' (by simp [Try.f180]) ?_
 have m1 : ((BitVec.ofInt IntKind.u64.bits y &&& BitVec.ofInt IntKind.u64.bits 4294967295).toNat : Int) = y := mask32 hy
 have m2 : ((BitVec.ofInt IntKind.u64.bits 1 &&& BitVec.ofInt IntKind.u64.bits 4294967295).toNat : Int) = 1 := mask32 (by omega)
 have m3 : ((BitVec.ofInt IntKind.u64.bits 0 &&& BitVec.ofInt IntKind.u64.bits 4294967295).toNat : Int) = 0 := mask32 (by omega)
 have p1 : (2 : Int) ^ min 32 IntKind.u64.bits = 4294967296 := rfl
 have d4 : Int.fdiv 0 4294967296 = 0 := rfl
 have d1 := div32 hy
 have d2 := div32 (y := 1) (by omega)
 have d3 := div32 (y := 0) (by omega)
 have w1 := wrap_u (y := y) (by omega)
 have w2 := wrap_u (y := 1) (by omega)
 have w3 := wrap_u (y := 0) (by omega)
 simp (maxSteps:=500000) only [↓vp, vv, ↓reduceIte, simprocAttr, c180, r180, r180, p1, d4, Int.one_mul, Int.zero_mul, Int.mul_zero, Int.add_zero, Int.zero_add, m1, m2, m3, d1, d2, d3, w1, w2, w3, Pu]
def repR (v : Int) (m N : Nat) : List (List D) := List.replicate m [di v] ++ List.replicate (N - m) [di 0]
theorem repR_refs (v : Int) (m N : Nat) (js : List Nm) : (∀ r ∈ repR v m N, refsInL js r = true) = True := eq_true fun r hr => by
 unfold repR at hr
 rcases List.mem_append.1 hr with h | h <;> (rw [(List.mem_replicate.1 h).2]; rfl)
def selMul : List D → Option (Prop × D)
 | [.v (.int .u64 x), .v (.int .u64 y)] => some (x = 1 ∧ 0 ≤ y ∧ y < 4294967296, .tup [du 0, du y])
 | _ => Option.none
theorem selMul_ok {f : FuncId} {T : Tbl} (hf : fnOk Try.prog f = true) (h : ∀ y, 0 ≤ y ∧ y < 4294967296 → ∀ nn, CallsA Try.prog f [du 1, du y] Hp.none nn (Pu (.tup [du 0, du y]) Hp.none)) (hT : TblOk Try.prog T) : TblOk Try.prog (tc f (rowPu selMul) T) :=
 tc_pu hf (fun args pre d hs hp nn => by
  unfold selMul at hs
  split at hs
  ·cases hs
   obtain ⟨rfl, hp⟩ := hp
   exact h _ hp nn
  ·cases hs) hT
theorem Mul_c (y : Int) (hy : 0 ≤ y ∧ y < 4294967296) (nn : Nm) : CallsA Try.prog 174 [du 1, du y] Hp.none nn (Pu (.tup [du 0, du y]) Hp.none) := by
 obtain ⟨code, h1, h2⟩ := c174_ok
 refine callsA_of (selMul_ok f180_ok Mul64_c (T0_ok _)) mixed (N := fun t => (0, t)) Try.func174 h1 h2 r174_ok [] false js_nil js_nil' (by simp [Try.f174]) ?_
 have e0 := hy.1
 have e1 := hy.2
 simp (maxSteps:=500000) only [↓vp, vv, ↓reduceIte, simprocAttr, c174, r174, c174_1, r174, selMul, e0, e1, Pu]
def rowOwn (sel : List D → Option (Prop × (Nm → D) × (Nm → Hp))) : List D → Hp → Nm → Option (Prop × (D → Hp → Prop)) := fun args Hs nn =>
 match sel args with
 | some (pre, d, h) => some (Hs = Hp.none ∧ pre, Pu (d nn) (h nn))
 | Option.none => Option.none
theorem tc_own {P : Program} {f : FuncId} {sel : List D → Option (Prop × (Nm → D) × (Nm → Hp))} {T : Tbl} (hf : fnOk P f = true) (h : ∀ args pre d H, sel args = some (pre, d, H) → pre → ∀ nn, CallsA P f args Hp.none nn (Pu (d nn) (H nn))) (hT : TblOk P T) : TblOk P (tc f (rowOwn sel) T) :=
 tc_row hf (fun args Hs nn pre R hr hp => by
  unfold rowOwn at hr
  split at hr
  ·rename_i pre' d H hs
   cases hr
   obtain ⟨rfl, hp⟩ := hp
   exact ⟨⟨_, _, rfl, rfl⟩, h _ _ _ _ hs hp nn⟩
  ·cases hr) hT
theorem repR_len (v : Int) {m N : Nat} (h : m ≤ N) : (repR v m N).length = N := by unfold repR; simp; omega
theorem repR_one (v : Int) (m N : Nat) : ∀ r ∈ repR v m N, r.length = 1 := fun r hr => by
 unfold repR at hr
 rcases List.mem_append.1 hr with h | h <;> (rw [(List.mem_replicate.1 h).2]; rfl)
theorem repR_next (v : Int) {m N : Nat} (h : m ≤ N) : (repR v m N).take m ++ ((repR v m N).take m).take (min m (N - m)) ++ (repR v m N).drop (m + min m (N - m)) = repR v (m + min m (N - m)) N := by
 have e1 : (repR v m N).take m = List.replicate m [di v] := by unfold repR; rw [List.take_append_of_le_length (by simp), List.take_of_length_le (by simp)]
 have e2 : (repR v m N).drop (m + min m (N - m)) = List.replicate (N - (m + min m (N - m))) [di 0] := by
  unfold repR
  rw [List.drop_append, List.length_replicate, List.drop_of_length_le (by simp), List.nil_append, List.drop_replicate]
  congr 1
  omega
 rw [e1, e2, List.take_replicate, List.replicate_append_replicate]
 unfold repR
 congr 2
 omega
set_option maxHeartbeats 4000000 in
theorem Repeat_c (v : Int) (N : Nat) (hN : 1 ≤ N ∧ N ≤ 1000000) (nn : Nm) : CallsA Try.prog 147 [.sl [[di v]], di N] Hp.none nn (Pu (.own nn 0 0 N) (Hp.none.put nn ⟨0, 1, List.replicate N [di v]⟩)) := by
 obtain ⟨code, h1, h2⟩ := c147_ok
 refine callsA_of (selMul_ok f174_ok Mul_c (T0_ok _)) mixed (N := fun _ => nn) Try.func147 h1 h2 r147_ok [nn] true js_nn js_nn' (by simp [Try.f147]) ?_
 have hN0 := idx_nn N
 have hN1 : decide ((N : Int) < 0) = false := decide_eq_false (by omega)
 have m1 : min 1 N = 1 := by omega
 have hN1' : N ≤ N := Nat.le_refl _
 have hN2 : (N : Int) < 4294967296 := by omega
 have c1 : IntKind.u64.wrap (N : Int) = N := wrap_u (by omega)
 have c2 : IntKind.u64.wrap (1 : Int) = 1 := wrap_u (by omega)
 have c3 : decide ((N : Int) > 9223372036854775807) = false := decide_eq_false (by omega)
 have e0 : [di v] :: List.drop 1 (List.replicate N [di 0]) = repR v 1 N := by
  unfold repR; rw [List.drop_replicate]; rfl
 have c4 : IntKind.i64.wrap (N : Int) = N := wrap_i (by omega)
 have z1 : (8 : Int) * N ≤ 281474976710656 := by omega
 have z2 : (N : Int) ≤ 4611686018427387904 := by omega
 simp (maxSteps:=500000) only [↓vp, vv, ↓reduceIte, simprocAttr, c147, c147_5, c147_4, selMul, hN0, hN1, hN2, c1, c2, c3, c4, z1, z2, m1, hN1', e0, decide_false, Bool.not_false, List.length_replicate, Int.toNat_natCast]
 rw [vc_loop]
 refine ⟨fun k s => ∃ m : Nat, 1 ≤ m ∧ m + k = N ∧ s = ⟨fr [(7, .own nn 0 0 N), (8, di m)], Hp.none.put nn ⟨0, 1, repR v m N⟩⟩, ⟨N - 1, _, (weak_eqA [] [nn] [(7, .own nn 0 0 N), (8, di (1 : Nat))] (by refine ⟨?_, ?_, ?_, by simp, ?_⟩ <;> (simp only [↓vp, vv, ↓reduceIte, simprocAttr, coverS, refsF, e0, repR_refs] <;> try rfl))), 1, Nat.le_refl _, by omega, rfl⟩, ?_⟩
 rintro k s ⟨m, hm, hk, rfl⟩
 have hm0 := idx_nn m
 have lr := repR_len v (show m ≤ N by omega)
 by_cases hlt : m < N
 ·have hlt' : (m : Int) < N := by omega
  have hle : m ≤ N := by omega
  have hle' : (m : Int) ≤ N := by omega
  have hmm : min m (N - m) ≥ 1 := by omega
  have w1 : IntKind.i64.wrap ((m : Int) + ((min m (N - m) : Nat) : Int)) = ((m + min m (N - m) : Nat) : Int) := by rw [wrap_i (by omega)]; omega
  have r1 := repR_next v hle
  have o1 : (∀ r ∈ (repR v m N).take m, r.length = 1) = True := eq_true fun r hr => repR_one v m N r (List.mem_of_mem_take hr)
  have lt1 : ((repR v m N).take m).length = m := by rw [List.length_take]; omega
  have b1 : m + (N - m) ≤ N := by omega
  have b2 : 0 < min m (N - m) := by omega
  simp (maxSteps:=500000) only [↓vp, vv, ↓reduceIte, simprocAttr, c147_2, c147_1, hlt', hle, hle', hm0, w1, r1, lr, o1, lt1, b1, b2, Nat.sub_zero, Int.toNat_natCast]
  exact ⟨N - (m + min m (N - m)), _, by omega, (weak_eqA [] [nn] [(7, .own nn 0 0 N), (8, di (m + min m (N - m) : Nat))] (by refine ⟨?_, ?_, ?_, by simp, ?_⟩ <;> (simp only [↓vp, vv, ↓reduceIte, simprocAttr, coverS, refsF, repR_refs] <;> try rfl))), m + min m (N - m), by omega, by omega, rfl⟩
 ·obtain rfl : m = N := by omega
  have e1 : repR v m m = List.replicate m [di v] := by unfold repR; rw [Nat.sub_self]; simp
  simp (maxSteps:=500000) only [↓vp, vv, ↓reduceIte, simprocAttr, c147_2, c147_3, r147, Int.lt_irrefl, e1, Pu]
  exact fun r hr => by rw [(List.mem_replicate.1 hr).2]; rfl
set_option maxHeartbeats 4000000 in
theorem Clone_c (c : List Bool) (hc : 1 ≤ c.length ∧ c.length ≤ 1000000) (nn : Nm) : CallsA Try.prog 114 [.sl (c.map bRow)] Hp.none nn (Pu (.own nn 1 0 c.length) (Hp.none.put nn ⟨1, 1, c.map bRow⟩)) := by
 obtain ⟨code, h1, h2⟩ := c114_ok
 refine callsA_of (T0_ok _) mixed (N := fun _ => nn) Try.func114 h1 h2 r114_ok [nn] true js_nn js_nn' (by simp [Try.f114]) ?_
 have a1 : 0 < c.length := by omega
 have a2 : c.length ≤ 140737488355328 := by omega
 have a3 : c.length ≤ 4611686018427387904 := by omega
 have o1 : (∀ r ∈ c.map bRow, r.length = 1) = True := eq_true fun r hr => by obtain ⟨b, _, rfl⟩ := List.mem_map.1 hr; rfl
 have o2 : (∀ r ∈ c.map bRow, refsInL [nn] r = true) = True := eq_true fun r hr => by obtain ⟨b, _, rfl⟩ := List.mem_map.1 hr; rfl
 simp (maxSteps:=500000) only [↓vp, vv, ↓reduceIte, simprocAttr, c114, r114, c114_1, r114, a1, a2, a3, o1, o2, Pu]
 exact ⟨⟨fun j _ => rfl, by omega⟩, fun j _ => rfl⟩
def gD (n : Net) (c : List Bool) : List D := [.sl (n.nodes.map nmRow), .sl (n.segs.map Seg.row), .sl (n.ports.map Port.row), .sl (n.sts.map Stn.row), di n.vap, di n.set, .sl (c.map bRow)]
def gOf1 : List D → Option (Net × List Bool)
 | [a, b, c, d, e, f, .sl rows] => match netOf1 [a, b, c, d, e, f], lsOf boolOf1 rows with
  | some n, some c => some (n, c)
  | _, _ => Option.none
 | _ => Option.none
theorem gOf1_row (n : Net) (c : List Bool) : gOf1 (gD n c) = some (n, c) := by
 have e1 : netOf1 [D.sl (n.nodes.map nmRow), .sl (n.segs.map Seg.row), .sl (n.ports.map Port.row), .sl (n.sts.map Stn.row), di n.vap, di n.set] = some n := netOf1_row n
 have e2 : lsOf boolOf1 (c.map bRow) = some c := lsOf_map boolOf1_row c
 unfold gD gOf1
 simp only [e1, e2]
theorem gOf1_eq {r : List D} {n : Net} {c : List Bool} (h : gOf1 r = some (n, c)) : r = gD n c := by
 unfold gOf1 at h
 split at h
 ·split at h
  ·rename_i e1 e2
   cases h
   have := netOf1_eq e1
   unfold netD at this
   rw [lsOf_eq (fun r x => boolOf1_eq) e2]
   injection this with q1 this
   injection this with q2 this
   injection this with q3 this
   injection this with q4 this
   injection this with q5 this
   injection this with q6 this
   rw [q1, q2, q3, q4, q5, q6]
   rfl
  ·cases h
 ·cases h
structure RtV (n : Net) (c : List Bool) : Prop where
 z : NetSz n
 ck : checkI n = 0
 l : c.length = n.segs.length
theorem RtV.v {n : Net} {c : List Bool} (h : RtV n c) : NetV n := check0 h.ck
theorem RtV.ok {n : Net} {c : List Bool} (h : RtV n c) : RtOk n c := ⟨h.l, fun x hx => by
 have := h.v.se x.1 (List.of_mem_zip hx).1
 exact ⟨this.1, this.2.1⟩⟩
def ovD : Option (Nat × Bool) → D
 | some (w, b) => .tup [di w, db b, db true]
 | Option.none => .tup [di 0, db false, db false]
set_option maxHeartbeats 4000000 in
theorem over_c (n : Net) (c : List Bool) (h : RtV n c) (k v : Nat) {x : Seg × Bool} (hx : (n.segs.zip c)[k]? = some x) (nn : Nm) : CallsA Try.prog 107 [.agg (gD n c), di k, di v] Hp.none nn (Pu (ovD (ovr x v)) Hp.none) := by
 obtain ⟨code, h1, h2⟩ := c107_ok
 refine callsA_of (T0_ok _) mixed (N := fun t => (0, t)) Try.func107 h1 h2 r107_ok [] false js_nil js_nil' (by simp [Try.f107]) ?_
 have hk : k < (n.segs.zip c).length := by
  rcases Nat.lt_or_ge k (n.segs.zip c).length with h1 | h1
  ·exact h1
  ·rw [List.getElem?_eq_none h1] at hx; cases hx
 have hl := h.l
 rw [List.length_zip] at hk
 have hks : k < n.segs.length := by omega
 have hks' : (k : Int) < n.segs.length := by omega
 have hkc : k < c.length := by omega
 have hkc' : (k : Int) < c.length := by omega
 have hk0 := idx_nn k
 rw [zip_get hks hkc] at hx
 cases hx
 have hgs := getD_map Seg.row n.segs k hks
 have hgc := getD_map bRow c k hkc
 have hsn := h.v.se n.segs[k] (List.getElem_mem hks)
 generalize n.segs[k] = s at hgs hsn
 generalize c[k] = b at hgc
 have e1 : ((s.to.toNat : Nat) : Int) = s.to := by omega
 have e2 : ((s.fr.toNat : Nat) : Int) = s.fr := by omega
 unfold ovr
 cases b with
 | true =>
  simp (maxSteps:=500000) only [↓vp, vv, ↓reduceIte, simprocAttr, c107, r107, c107_1, r107, gD, Seg.row, bRow, hks', hkc', hk0, Int.toNat_natCast, hgs, hgc, ovD, Pu]
 | false =>
  by_cases q1 : s.fr = v
  ·have q1' : (s.fr == (v : Int)) = true := by rw [beq_iff_eq]; exact q1
   simp only [q1, if_true, if_false, Bool.false_eq_true, ovD, e1]
   simp (maxSteps:=500000) only [↓vp, vv, ↓reduceIte, simprocAttr, c107, r107, c107_1, r107, gD, Seg.row, bRow, hks', hkc', hk0, Int.toNat_natCast, hgs, hgc, q1', Pu]
  ·have q1' : (s.fr == (v : Int)) = false := by rw [beq_eq_false_iff_ne]; exact q1
   by_cases q2 : s.to = v
   ·have q2' : (s.to == (v : Int)) = true := by rw [beq_iff_eq]; exact q2
    simp only [q1, q2, if_true, if_false, Bool.false_eq_true, ovD, e2]
    simp (maxSteps:=500000) only [↓vp, vv, ↓reduceIte, simprocAttr, c107, r107, c107_1, r107, gD, Seg.row, bRow, hks', hkc', hk0, Int.toNat_natCast, hgs, hgc, q1', q2', Pu]
   ·have q2' : (s.to == (v : Int)) = false := by rw [beq_eq_false_iff_ne]; exact q2
    simp only [q1, q2, if_false, Bool.false_eq_true, ovD]
    simp (maxSteps:=500000) only [↓vp, vv, ↓reduceIte, simprocAttr, c107, r107, c107_1, r107, gD, Seg.row, bRow, hks', hkc', hk0, Int.toNat_natCast, hgs, hgc, q1', q2', Pu]
theorem weak_mt {J : List Nm} {F : Fr} {H : Hp} (t : Nat) (h : F t = .mt) : Weak J ⟨F, H⟩ ⟨putF F (some t) (.sl []), H⟩ := by
 intro E hE Im p a w hR
 refine ⟨Im, p, hR.sz, fun k => ?_, hR.hp, hR.en, hR.gr, hR.df⟩
 dsimp only [putF]
 by_cases hk : k = t
 ·subst hk
  rw [if_pos rfl]
  have r := hR.fr k
  dsimp only at r
  rw [h] at r
  obtain ⟨ao, ex⟩ := rel_mt r
  rw [ex]
  exact .p (.sl0 ao 0)
 ·rw [if_neg (by simpa using hk)]
  exact hR.fr k
def gchk (n : Net) (c : List Bool) (ks : List Int) : Int := if checkI n ≠ 0 then checkI n else if c.length ≠ n.segs.length then 9 else if ks.any (unk n) = true then 8 else 0
theorem gk1_c (n : Net) (c : List Bool) (k : Int) (nn : Nm) : CallsA Try.prog 146 [di k, .ip (gD n c)] Hp.none nn (Pu (db (unk n k)) Hp.none) := by
 obtain ⟨code, h1, h2⟩ := c146_ok
 refine callsA_of (T0_ok _) mixed (N := fun t => (0, t)) Try.func146 h1 h2 r146_ok [] false js_nil js_nil' (by simp [Try.f146]) ?_
 cases a1 : decide (k < 0) <;> simp (maxSteps:=500000) only [↓vp, vv, ↓reduceIte, simprocAttr, c146, r146, gD, a1, unk, Pu]
def TGk (P : Program) (n : Net) : Tbl := tc 145 (rowPu (selQ P false 1 (fun g l => qRow intOf1 (unk n)) outC)) (tc 95 (rowPu (selNetW (fun _ => True) fun n => di (checkI n))) T0)
theorem TGk_ok (n : Net) : TblOk Try.prog (TGk Try.prog n) := by
 refine tc_pu f145_ok (fun args pre d h hp nn => ?_) (tc_netw f95_ok (fun n _ nn => check_w n nn) (T0_ok _))
 unfold selQ at h
 split at h
 ·split at h
  ·rename_i hi
   cases h
   rw [ipsOf_eq hi]
   exact hasF_I _ _ _ _ hp nn
  ·cases h
 ·cases h
set_option maxHeartbeats 4000000 in
theorem gcheck_c (n : Net) (c : List Bool) (a1 : D) (ks : List Int) (hk : ks.length ≤ 1000) (ha : a1 = .sl (ks.map iRow) ∨ (a1 = .mt ∧ ks = [])) (nn : Nm) : CallsA Try.prog 105 [.agg (gD n c), a1] Hp.none nn (Pu (di (gchk n c ks)) Hp.none) := by
 obtain ⟨code, h1, h2⟩ := c105_ok
 refine callsA_of (TGk_ok n) mixed (N := fun t => (0, t)) Try.func105 h1 h2 r105_ok [] false js_nil js_nil' (by simp [Try.f105]) ?_
 have hn1 := netOf1_x n
 have hq : QOk Try.prog false 1 (qRow intOf1 (unk n)) 146 [gD n c] (ks.map iRow) := by
  refine ⟨f146_ok, by rw [List.length_map]; omega, fun r hr => ?_⟩
  obtain ⟨x, _, rfl⟩ := List.mem_map.1 hr
  exact ⟨rfl, rfl, fun _ => ⟨_, rfl⟩, fun nn => gk1_c n c x nn⟩
 have ho : outC (fun r => qRow intOf1 (unk n) (elV false r)) (ks.map iRow) = db (ks.any (unk n)) := by
  unfold outC
  rw [List.any_map]
  rfl
 have fin : ∀ (F : Fr) (H : Hp), checkI n = 0 → c.length = n.segs.length → Weak [] ⟨F, H⟩ ⟨fr [(1, .sl (ks.map iRow)), (2, .ptr (0, 2) 0 0 0)], Hp.none.put (0, 2) ⟨0, 7, [gD n c]⟩⟩ → vc (TGk Try.prog n) (fun t => (0, t)) [] (.weak c105_2) (finQ r105 [] false (Pu (di (gchk n c ks)) Hp.none)) ⟨F, H⟩ := fun F H e1 e2 hw => by
  refine vc_wk (hw.trans ((weak_ip 2 (0, 2) 0 7 (gD n c) (by simp only [↓vp, vv, ↓reduceIte, simprocAttr, ]) (by simp only [↓vp, vv, ↓reduceIte, simprocAttr, gD]) (by simp only [↓vp, vv, ↓reduceIte, simprocAttr, gD]) (by simp)).trans (weak_eq [] [] [(1, .sl (ks.map iRow)), (2, .ip (gD n c))] (by simp only [↓vp, vv, ↓reduceIte, simprocAttr, coverS, iRow]) (by simp only [↓vp, vv, ↓reduceIte, simprocAttr, refsF]) (by simp only [↓vp, vv, ↓reduceIte, simprocAttr, ]) (by simp) (by simp only [↓vp, vv, ↓reduceIte, simprocAttr, ]; try rfl)))) ?_
  have g : gchk n c ks = if ks.any (unk n) = true then 8 else 0 := by unfold gchk; rw [if_neg (by omega), if_neg (by omega)]
  rw [g]
  cases hb : ks.any (unk n) <;> (rw [hb] at ho; simp (maxSteps:=500000) only [↓vp, vv, ↓reduceIte, simprocAttr, c105_2, c105_1, r105, TGk, selQ, ipsOf, hq, ho, Pu])
 cases c1 : (checkI n != 0) with
 | true =>
  have e1 : checkI n ≠ 0 := by simpa using c1
  have g : gchk n c ks = checkI n := by unfold gchk; rw [if_pos e1]
  rw [g]
  rcases ha with rfl | ⟨rfl, rfl⟩ <;> simp (maxSteps:=500000) only [↓vp, vv, ↓reduceIte, simprocAttr, c105, gD, TGk, selNetW, hn1, c1, r105, Pu]
 | false =>
  have e1 : checkI n = 0 := by simpa using c1
  rw [e1] at c1
  cases c2 : ((c.length : Int) != (n.segs.length : Int)) with
  | true =>
   have e2 : c.length ≠ n.segs.length := fun h => by rw [h] at c2; simp at c2
   have g : gchk n c ks = 9 := by unfold gchk; rw [if_neg (by omega), if_pos e2]
   rw [g]
   rcases ha with rfl | ⟨rfl, rfl⟩ <;> simp (maxSteps:=500000) only [↓vp, vv, ↓reduceIte, simprocAttr, c105, c105_3, gD, TGk, selNetW, hn1, c1, c2, e1, r105, Pu]
  | false =>
   have e2 : c.length = n.segs.length := by simp at c2; omega
   rcases ha with rfl | ⟨rfl, rfl⟩
   ·simp (maxSteps:=500000) only [↓vp, vv, ↓reduceIte, simprocAttr, c105, c105_3, gD, TGk, selNetW, hn1, c1, c2, e1]
    refine fin _ _ e1 e2 ?_
    exact (weak_eqA [] [(0, 2)] [(1, .sl (ks.map iRow)), (2, .ptr (0, 2) 0 0 0)] (by refine ⟨?_, ?_, ?_, by simp, ?_⟩ <;> (simp only [↓vp, vv, ↓reduceIte, simprocAttr, coverS, refsF, gD, iRow] <;> try rfl)))
   ·simp (maxSteps:=500000) only [↓vp, vv, ↓reduceIte, simprocAttr, c105, c105_3, gD, TGk, selNetW, hn1, c1, c2, e1]
    refine fin _ _ e1 e2 ?_
    exact (weak_mt 1 (by simp only [↓vp, vv, ↓reduceIte, simprocAttr, ])).trans (weak_eqA [] [(0, 2)] [(1, .sl []), (2, .ptr (0, 2) 0 0 0)] (by refine ⟨?_, ?_, ?_, by simp, ?_⟩ <;> (simp only [↓vp, vv, ↓reduceIte, simprocAttr, coverS, refsF, gD, iRow] <;> try rfl)))
end Go.Proofs.Ytadjhfjiimgddaa
