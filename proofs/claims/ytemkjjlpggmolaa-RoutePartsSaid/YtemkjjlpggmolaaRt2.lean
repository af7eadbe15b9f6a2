
/- Ways through a network: the plain laws: ways, parts. -/
import Derived.Test.YtemkjjlpggmolaaRt1
namespace Go.Proofs.Ytemkjjlpggmolaa
open Go
set_option linter.unusedVariables false
set_option linter.unusedSimpArgs false
set_option maxRecDepth 100000

/-- The least segment that comes nearer. -/
def pickF (D : List Int) (a : Nat) : Nat → List (Seg × Bool) → Option (Nat × Nat × Bool)
  | _, [] => Option.none
  | k, x :: E => match ovr x a with
    | some (w, b) => if D.getD w 0 = D.getD a 0 - 1 then some (k, w, b) else pickF D a (k + 1) E
    | Option.none => pickF D a (k + 1) E
theorem pickF_spec {D : List Int} {a : Nat} : ∀ {E : List (Seg × Bool)} {k j w : Nat} {b : Bool}, pickF D a k E = some (j, w, b) → k ≤ j ∧ (∃ x, E[j - k]? = some x ∧ ovr x a = some (w, b)) ∧ D.getD w 0 = D.getD a 0 - 1 ∧ ∀ i, i < j - k → ∀ y, E[i]? = some y → ∀ w' b', ovr y a = some (w', b') → D.getD w' 0 ≠ D.getD a 0 - 1
  | [], k, j, w, b, h => by cases h
  | x :: E, k, j, w, b, h => by
    have rec' : pickF D a (k + 1) E = some (j, w, b) → (∀ w' b', ovr x a = some (w', b') → D.getD w' 0 ≠ D.getD a 0 - 1) → (k ≤ j ∧ (∃ y, (x :: E)[j - k]? = some y ∧ ovr y a = some (w, b)) ∧ D.getD w 0 = D.getD a 0 - 1 ∧ ∀ i, i < j - k → ∀ y, (x :: E)[i]? = some y → ∀ w' b', ovr y a = some (w', b') → D.getD w' 0 ≠ D.getD a 0 - 1) := fun h hx => by
      obtain ⟨q1, ⟨y, q2, q3⟩, q4, q5⟩ := pickF_spec h
      refine ⟨by omega, ⟨y, ?_, q3⟩, q4, fun i hi z hz => ?_⟩
      · rw [show j - k = (j - (k + 1)) + 1 by omega, List.getElem?_cons_succ]; exact q2
      · cases i with
        | zero => rw [List.getElem?_cons_zero] at hz; cases hz; exact hx
        | succ i => rw [List.getElem?_cons_succ] at hz; exact q5 i (by omega) z hz
    unfold pickF at h
    split at h
    · rename_i w0 b0 e
      split at h
      · rename_i hd
        cases h
        refine ⟨Nat.le_refl _, ⟨x, by rw [Nat.sub_self]; rfl, e⟩, hd, fun i hi => absurd hi (by omega)⟩
      · rename_i hd
        exact rec' h fun w' b' e' => by rw [e] at e'; cases e'; exact hd
    · rename_i e
      exact rec' h fun w' b' e' => by rw [e] at e'; cases e'
theorem pickF_none {D : List Int} {a : Nat} : ∀ {E : List (Seg × Bool)} {k : Nat}, pickF D a k E = Option.none → ∀ y ∈ E, ∀ w b, ovr y a = some (w, b) → D.getD w 0 ≠ D.getD a 0 - 1
  | x :: E, k, h, y, hy, w, b, e => by
    unfold pickF at h
    have two : pickF D a (k + 1) E = Option.none → (∀ w b, ovr x a = some (w, b) → D.getD w 0 ≠ D.getD a 0 - 1) → D.getD w 0 ≠ D.getD a 0 - 1 := fun h hx => by
      rcases List.mem_cons.1 hy with h1 | h1
      · subst h1; exact hx w b e
      · exact pickF_none h y h1 w b e
    split at h
    · rename_i w0 b0 e0
      split at h
      · cases h
      · rename_i hd
        exact two h fun w' b' e' => by rw [e0] at e'; cases e'; exact hd
    · rename_i e0
      exact two h fun w' b' e' => by rw [e0] at e'; cases e'
theorem pickF_at {D : List Int} {a : Nat} : ∀ {E : List (Seg × Bool)} {k i : Nat} {x : Seg × Bool} {w : Nat} {b : Bool}, E[i]? = some x → ovr x a = some (w, b) → D.getD w 0 = D.getD a 0 - 1 → (∀ i', i' < i → ∀ y, E[i']? = some y → ∀ w' b', ovr y a = some (w', b') → D.getD w' 0 ≠ D.getD a 0 - 1) → pickF D a k E = some (k + i, w, b)
  | y :: E, k, 0, x, w, b, hx, e, hd, _ => by
    rw [List.getElem?_cons_zero] at hx
    cases hx
    unfold pickF
    rw [e]
    dsimp only
    rw [if_pos hd]
    rfl
  | y :: E, k, i + 1, x, w, b, hx, e, hd, hn => by
    rw [List.getElem?_cons_succ] at hx
    have := pickF_at (k := k + 1) hx e hd fun i' hi' z hz => hn (i' + 1) (by omega) z (by rw [List.getElem?_cons_succ]; exact hz)
    rw [show k + 1 + i = k + (i + 1) by omega] at this
    have h0 := hn 0 (by omega) y rfl
    unfold pickF
    split
    · rename_i w0 b0 e0
      rw [if_neg (h0 w0 b0 e0)]
      exact this
    · exact this
/-- The hops from a node on, as many as its distance. -/
def wayL (E : List (Seg × Bool)) (D : List Int) : Nat → Nat → List (Int × Bool)
  | 0, _ => []
  | f + 1, a => match pickF D a 0 E with
    | some (k, w, b) => ((k : Int), b) :: wayL E D f w
    | Option.none => []
/-- A list of hops is a way from a node to another one. -/
inductive WayP (E : List (Seg × Bool)) : Nat → List (Int × Bool) → Nat → Prop where
  | nil (a : Nat) : WayP E a [] a
  | cons {k : Nat} {x : Seg × Bool} {a w c : Nat} {b : Bool} {l : List (Int × Bool)} (hk : E[k]? = some x) (e : ovr x a = some (w, b)) (h : WayP E w l c) : WayP E a (((k : Int), b) :: l) c
theorem IsD.pick {N : Nat} {E : List (Seg × Bool)} {t : Nat} {D : List Int} (h : IsD N E t D) {a m : Nat} (ha : a < N) (hm : D.getD a 0 = (m + 1 : Nat)) : ∃ k w b, pickF D a 0 E = some (k, w, b) := by
  cases e : pickF D a 0 E with
  | some r => exact ⟨r.1, r.2.1, r.2.2, rfl⟩
  | none =>
    exfalso
    obtain ⟨x, hx, w, b, e1, e2⟩ := h.back a ha (by omega)
    exact pickF_none e x hx w b e1 e2
theorem way_spec {N : Nat} {E : List (Seg × Bool)} {t : Nat} {D : List Int} (hE : ∀ x ∈ E, SgIn N x) (h : IsD N E t D) : ∀ (m a : Nat), a < N → D.getD a 0 = m → WayP E a (wayL E D m a) t ∧ (wayL E D m a).length = m
  | 0, a, ha, hm => by rw [(h.z a ha).1 hm]; exact ⟨.nil t, rfl⟩
  | m + 1, a, ha, hm => by
    obtain ⟨k, w, b, e⟩ := h.pick ha hm
    obtain ⟨_, ⟨x, q2, q3⟩, q4, _⟩ := pickF_spec e
    rw [Nat.sub_zero] at q2
    have hw := (ovr_lt (hE x (List.mem_of_getElem? q2)) q3).1
    obtain ⟨r1, r2⟩ := way_spec hE h m w hw (by omega)
    unfold wayL
    rw [e]
    exact ⟨.cons q2 q3 r1, by dsimp only; rw [List.length_cons, r2]⟩
theorem WayP.hops {E : List (Seg × Bool)} {a c : Nat} {l : List (Int × Bool)} (h : WayP E a l c) : Hops E a c l.length := by
  induction h with
  | nil a => exact .nil a
  | cons hk e h ih => exact .cons (List.mem_of_getElem? hk) e ih
/-- A network, a list of what is closed. -/
structure RtOk (n : Net) (c : List Bool) : Prop where
  l : c.length = n.segs.length
  s : ∀ x ∈ n.segs.zip c, SgIn n.nodes.length x
def wayW (n : Net) (c : List Bool) (a t : Nat) : List (Int × Bool) := wayL (n.segs.zip c) (hopsL n c t) ((hopsL n c t).getD a 0).toNat a
theorem RtOk.isD {n : Net} {c : List Bool} (h : RtOk n c) {t : Nat} (ht : t < n.nodes.length) : IsD n.nodes.length (n.segs.zip c) t (hopsL n c t) := hops_isD h.s ht
theorem RtOk.way {n : Net} {c : List Bool} (h : RtOk n c) {a t : Nat} (ha : a < n.nodes.length) (ht : t < n.nodes.length) (h0 : 0 ≤ (hopsL n c t).getD a 0) : WayP (n.segs.zip c) a (wayW n c a t) t ∧ ((wayW n c a t).length : Int) = (hopsL n c t).getD a 0 := by
  obtain ⟨r1, r2⟩ := way_spec h.s (h.isD ht) ((hopsL n c t).getD a 0).toNat a ha (by omega)
  exact ⟨r1, by unfold wayW; rw [r2]; omega⟩
/-- A node is as far from another one as this from it. -/
theorem RtOk.comm {n : Net} {c : List Bool} (h : RtOk n c) {a t : Nat} (ha : a < n.nodes.length) (ht : t < n.nodes.length) : (hopsL n c t).getD a 0 = (hopsL n c a).getD t 0 := by
  have one : ∀ {a t : Nat}, a < n.nodes.length → t < n.nodes.length → 0 ≤ (hopsL n c t).getD a 0 → 0 ≤ (hopsL n c a).getD t 0 ∧ (hopsL n c a).getD t 0 ≤ (hopsL n c t).getD a 0 := fun {a t} ha ht h0 => by
    obtain ⟨v, hv⟩ : ∃ v : Nat, (hopsL n c t).getD a 0 = v := ⟨((hopsL n c t).getD a 0).toNat, by omega⟩
    have := (h.isD ha).le h.s ha ((h.isD ht).hops h.s v a ha hv)
    omega
  have l1 := (h.isD ht).lo a ha
  have l2 := (h.isD ha).lo t ht
  rcases Int.lt_or_le ((hopsL n c t).getD a 0) 0 with h0 | h0
  · rcases Int.lt_or_le ((hopsL n c a).getD t 0) 0 with h1 | h1
    · omega
    · have := one ht ha h1
      omega
  · have := one ha ht h0
    have := one ht ha this.1
    omega
/-- Nodes that are joined. -/
def joinB (n : Net) (c : List Bool) (a b : Nat) : Prop := 0 ≤ (hopsL n c a).getD b 0
theorem RtOk.join {n : Net} {c : List Bool} (h : RtOk n c) {a b : Nat} (ha : a < n.nodes.length) (hb : b < n.nodes.length) : joinB n c a b ↔ ∃ m, Hops (n.segs.zip c) a b m := by
  unfold joinB
  refine ⟨fun h0 => ?_, fun ⟨m, hm⟩ => ((h.isD ha).le h.s ha hm).1⟩
  obtain ⟨v, hv⟩ : ∃ v : Nat, (hopsL n c a).getD b 0 = v := ⟨((hopsL n c a).getD b 0).toNat, by omega⟩
  exact ⟨v, ((h.isD ha).hops h.s v b hb hv).symm h.s⟩
def rL (n : Net) (c : List Bool) (k : Nat) : List Nat := (List.range n.nodes.length).filter fun j => decide (0 ≤ (hopsL n c k).getD j 0)
theorem RtOk.mem_rL {n : Net} {c : List Bool} (h : RtOk n c) {k j : Nat} (hk : k < n.nodes.length) : j ∈ rL n c k ↔ j < n.nodes.length ∧ ∃ m, Hops (n.segs.zip c) k j m := by
  unfold rL
  rw [List.mem_filter, List.mem_range, decide_eq_true_eq]
  exact ⟨fun ⟨h1, h2⟩ => ⟨h1, (h.join hk h1).1 h2⟩, fun ⟨h1, h2⟩ => ⟨h1, (h.join hk h1).2 h2⟩⟩
/-- The first of those that are joined with a node. -/
def rootB (n : Net) (c : List Bool) (k : Nat) : Bool := (rL n c k).getD 0 0 == k
theorem root_iff {n : Net} {c : List Bool} (h : RtOk n c) {k : Nat} (hk : k < n.nodes.length) : rootB n c k = true ↔ ∀ j, j < n.nodes.length → (∃ m, Hops (n.segs.zip c) k j m) → k ≤ j := by
  have hmem : k ∈ rL n c k := (h.mem_rL hk).2 ⟨hk, 0, .nil k⟩
  have hs : (rL n c k).Pairwise (· < ·) := List.Pairwise.filter _ List.pairwise_lt_range
  unfold rootB
  cases e : rL n c k with
  | nil => rw [e] at hmem; cases hmem
  | cons r l =>
    rw [e] at hmem hs
    have hr := (List.pairwise_cons.1 hs).1
    have hin : ∀ j, j ∈ r :: l ↔ j < n.nodes.length ∧ ∃ m, Hops (n.segs.zip c) k j m := fun j => by rw [← e]; exact h.mem_rL hk
    show (r == k) = true ↔ _
    rw [beq_iff_eq]
    refine ⟨fun e j hj hh => ?_, fun hall => ?_⟩
    · subst e
      rcases List.mem_cons.1 ((hin j).2 ⟨hj, hh⟩) with h1 | h1
      · omega
      · exact Nat.le_of_lt (hr j h1)
    · obtain ⟨h1, h2⟩ := (hin r).1 (List.mem_cons_self ..)
      have := hall r h1 h2
      rcases List.mem_cons.1 hmem with h3 | h3
      · exact h3.symm
      · have := hr k h3; omega
def partsL (n : Net) (c : List Bool) : List (List Nat) := ((List.range n.nodes.length).filter (rootB n c)).map (rL n c)
end Go.Proofs.Ytemkjjlpggmolaa
