
/- Distances in a network: the plain laws. -/
import Derived.Test.YtfkhjkkhdfcnjaaFw4
import Derived.Test.YtfkhjkkhdfcnjaaLu1
import Derived.Test.YtfkhjkkhdfcnjaaRkA
import Derived.Test.YtfkhjkkhdfcnjaaCodeLS
/- Distances in a network: the plain laws. -/
namespace Go.Proofs.Ytfkhjkkhdfcnjaa
open Go
set_option linter.unusedVariables false
set_option linter.unusedSimpArgs false
set_option maxRecDepth 100000

/-- A segment, as the reference uses it in a round of distances. -/
def dstep (r : Int) (D : List Int) (x : Seg × Bool) : List Int :=
  if x.2 = true then D else
    (fun D1 : List Int => if D1.getD x.1.to.toNat 0 = r ∧ D1.getD x.1.fr.toNat 0 < 0 then D1.set x.1.fr.toNat (r + 1) else D1)
      (if D.getD x.1.fr.toNat 0 = r ∧ D.getD x.1.to.toNat 0 < 0 then D.set x.1.to.toNat (r + 1) else D)
def dround (E : List (Seg × Bool)) (D : List Int) (r : Nat) : List Int := E.foldl (dstep r) D
def distL (n : Net) (c : List Bool) (at' : Nat) : List Int := (List.range n.nodes.length).foldl (dround (n.segs.zip c)) ((List.replicate n.nodes.length (-1)).set at' 0)
theorem getD_setI (A : List Int) (i k : Nat) (v : Int) (h : i < A.length) : (A.set i v).getD k 0 = if i = k then v else A.getD k 0 := by
  rw [List.getD_eq_getElem?_getD, List.getD_eq_getElem?_getD, List.getElem?_set]
  split
  · rename_i e; subst e; simp [h]
  · rfl
/-- What the rounds keep: N nodes; only what is below 0 is set, to r + 1, beside a node of r. -/
structure DInv (N : Nat) (r : Int) (D : List Int) : Prop where
  len : D.length = N
  hi : ∀ k, k < N → -1 ≤ D.getD k 0 ∧ D.getD k 0 ≤ r + 1
  /-- each level is reached from the one below -/
  lev : ∀ k, k < N → ∀ m : Nat, (m : Int) + 1 ≤ D.getD k 0 → ∃ j, j < N ∧ D.getD j 0 = m
def Closed (E : List (Seg × Bool)) (r : Int) (D : List Int) : Prop := ∀ x ∈ E, x.2 = false → (0 ≤ D.getD x.1.fr.toNat 0 ∧ D.getD x.1.fr.toNat 0 ≤ r → 0 ≤ D.getD x.1.to.toNat 0) ∧ (0 ≤ D.getD x.1.to.toNat 0 ∧ D.getD x.1.to.toNat 0 ≤ r → 0 ≤ D.getD x.1.fr.toNat 0)
def SegIn (N : Nat) (x : Seg × Bool) : Prop := (0 ≤ x.1.fr ∧ x.1.fr < N) ∧ 0 ≤ x.1.to ∧ x.1.to < N
theorem set_inv {N : Nat} {r : Int} {D : List Int} (h0 : 0 ≤ r) (h : DInv N r D) {i j : Nat} (hi : i < N) (hj : j < N) (h1 : D.getD j 0 = r) (h2 : D.getD i 0 < 0) : DInv N r (D.set i (r + 1)) := by
  have hl := h.len
  refine ⟨by rw [List.length_set]; exact hl, fun k hk => ?_, fun k hk m hm => ?_⟩
  · rw [getD_setI _ _ _ _ (by omega)]
    have := h.hi k hk
    split <;> omega
  · rw [getD_setI _ _ _ _ (by omega)] at hm
    have back : ∀ q, q < N → D.getD q 0 = (m : Int) → ∃ j, j < N ∧ (D.set i (r + 1)).getD j 0 = m := fun q hq he => ⟨q, hq, by
      rw [getD_setI _ _ _ _ (by omega), if_neg (fun e => by subst e; omega)]
      exact he⟩
    split at hm
    · rcases Int.lt_or_le (m : Int) r with h3 | h3
      · obtain ⟨q, hq, he⟩ := h.lev j hj m (by omega)
        exact back q hq he
      · exact back j hj (by omega)
    · obtain ⟨q, hq, he⟩ := h.lev k hk m hm
      exact back q hq he
/-- What a step changes: nothing that is 0 or more. -/
theorem step_spec {N : Nat} {r : Nat} {D : List Int} (h : DInv N r D) {x : Seg × Bool} (hx : SegIn N x) :
    DInv N r (dstep r D x) ∧ (∀ k, k < N → 0 ≤ D.getD k 0 → (dstep r D x).getD k 0 = D.getD k 0) ∧ (∀ k, k < N → 0 ≤ (dstep r D x).getD k 0 → (dstep r D x).getD k 0 ≤ r → 0 ≤ D.getD k 0) ∧
      (x.2 = false → ((dstep r D x).getD x.1.fr.toNat 0 = r → 0 ≤ (dstep r D x).getD x.1.to.toNat 0) ∧ ((dstep r D x).getD x.1.to.toNat 0 = r → 0 ≤ (dstep r D x).getD x.1.fr.toNat 0)) := by
  obtain ⟨⟨f0, f1⟩, t0, t1⟩ := hx
  have hl := h.len
  have hf : x.1.fr.toNat < N := by omega
  have ht : x.1.to.toNat < N := by omega
  generalize hF : x.1.fr.toNat = F at hf
  generalize hT : x.1.to.toNat = T at ht
  have one : ∀ (D : List Int), DInv N r D → ∀ i j, i < N → j < N → D.getD j 0 = (r : Int) → D.getD i 0 < 0 → DInv N r (D.set i ((r : Int) + 1)) ∧ (∀ k, k < N → 0 ≤ D.getD k 0 → (D.set i ((r : Int) + 1)).getD k 0 = D.getD k 0) ∧ (∀ k, k < N → 0 ≤ (D.set i ((r : Int) + 1)).getD k 0 → (D.set i ((r : Int) + 1)).getD k 0 ≤ r → 0 ≤ D.getD k 0) ∧ (D.set i ((r : Int) + 1)).getD i 0 = (r : Int) + 1 := fun D h i j hi hj h1 h2 => by
    have hl := h.len
    refine ⟨set_inv (by omega) h hi hj h1 h2, fun k hk h3 => ?_, fun k hk h3 h4 => ?_, ?_⟩
    · rw [getD_setI _ _ _ _ (by omega), if_neg (fun e => by subst e; omega)]
    · rw [getD_setI _ _ _ _ (by omega)] at h3 h4
      split at h3
      · rename_i e; rw [if_pos e] at h4; omega
      · exact h3
    · rw [getD_setI _ _ _ _ (by omega), if_pos rfl]
  unfold dstep
  rw [hF, hT]
  by_cases hc : x.2 = true
  · rw [if_pos hc]
    exact ⟨h, fun _ _ _ => rfl, fun _ _ h1 _ => h1, fun e => by rw [e] at hc; cases hc⟩
  · rw [if_neg hc]
    by_cases a : D.getD F 0 = (r : Int) ∧ D.getD T 0 < 0
    · rw [if_pos a]
      obtain ⟨i1, i2, i3, i4⟩ := one D h T F ht hf a.1 a.2
      have hFF := i2 F hf (by omega)
      have b : ¬ ((D.set T ((r : Int) + 1)).getD T 0 = (r : Int) ∧ (D.set T ((r : Int) + 1)).getD F 0 < 0) := fun e => by omega
      dsimp only
      rw [if_neg b]
      exact ⟨i1, i2, i3, fun _ => ⟨fun _ => by omega, fun _ => by omega⟩⟩
    · rw [if_neg a]
      dsimp only
      by_cases b : D.getD T 0 = (r : Int) ∧ D.getD F 0 < 0
      · rw [if_pos b]
        obtain ⟨i1, i2, i3, i4⟩ := one D h F T hf ht b.1 b.2
        have hTT := i2 T ht (by omega)
        exact ⟨i1, i2, i3, fun _ => ⟨fun _ => by omega, fun _ => by omega⟩⟩
      · rw [if_neg b]
        refine ⟨h, fun _ _ _ => rfl, fun _ _ h1 _ => h1, fun _ => ⟨fun e => ?_, fun e => ?_⟩⟩
        · rcases Int.lt_or_le (D.getD T 0) 0 with q | q
          · exact absurd ⟨e, q⟩ a
          · exact q
        · rcases Int.lt_or_le (D.getD F 0) 0 with q | q
          · exact absurd ⟨e, q⟩ b
          · exact q
theorem round_spec {N r : Nat} : ∀ (E : List (Seg × Bool)) (P : List (Seg × Bool)) {D : List Int}, (∀ x ∈ E, SegIn N x) → (∀ x ∈ P, SegIn N x) → DInv N r D → (∀ x ∈ P, x.2 = false → (D.getD x.1.fr.toNat 0 = r → 0 ≤ D.getD x.1.to.toNat 0) ∧ (D.getD x.1.to.toNat 0 = r → 0 ≤ D.getD x.1.fr.toNat 0)) →
    DInv N r (E.foldl (dstep r) D) ∧ (∀ k, k < N → 0 ≤ D.getD k 0 → (E.foldl (dstep r) D).getD k 0 = D.getD k 0) ∧ (∀ k, k < N → 0 ≤ (E.foldl (dstep r) D).getD k 0 → (E.foldl (dstep r) D).getD k 0 ≤ r → 0 ≤ D.getD k 0) ∧ (∀ x ∈ P ++ E, x.2 = false → ((E.foldl (dstep r) D).getD x.1.fr.toNat 0 = r → 0 ≤ (E.foldl (dstep r) D).getD x.1.to.toNat 0) ∧ ((E.foldl (dstep r) D).getD x.1.to.toNat 0 = r → 0 ≤ (E.foldl (dstep r) D).getD x.1.fr.toNat 0))
  | [], P, D, _, _, h, hP => ⟨h, fun _ _ _ => rfl, fun _ _ h1 _ => h1, by rw [List.append_nil]; exact hP⟩
  | y :: E, P, D, hE, hPi, h, hP => by
    have hy := hE y (List.mem_cons_self ..)
    obtain ⟨s1, s2, s3, s4⟩ := step_spec h hy
    have hP' : ∀ x ∈ P ++ [y], x.2 = false → ((dstep r D y).getD x.1.fr.toNat 0 = r → 0 ≤ (dstep r D y).getD x.1.to.toNat 0) ∧ ((dstep r D y).getD x.1.to.toNat 0 = r → 0 ≤ (dstep r D y).getD x.1.fr.toNat 0) := fun x hx hc => by
      rcases List.mem_append.1 hx with hx | hx
      · obtain ⟨⟨f0, f1⟩, t0, t1⟩ := hPi x hx
        obtain ⟨p1, p2⟩ := hP x hx hc
        have hf : x.1.fr.toNat < N := by omega
        have ht : x.1.to.toNat < N := by omega
        refine ⟨fun e => ?_, fun e => ?_⟩
        · have a := s3 _ hf (by omega) (by omega)
          have b := s2 _ hf a
          have c := p1 (by omega)
          rw [s2 _ ht c]; exact c
        · have a := s3 _ ht (by omega) (by omega)
          have b := s2 _ ht a
          have c := p2 (by omega)
          rw [s2 _ hf c]; exact c
      · rw [List.mem_singleton.1 hx] at hc ⊢
        exact s4 hc
    obtain ⟨q1, q2, q3, q4⟩ := round_spec E (P ++ [y]) (fun x hx => hE x (List.mem_cons_of_mem _ hx)) (fun x hx => by
      rcases List.mem_append.1 hx with hx | hx
      · exact hPi x hx
      · rw [List.mem_singleton.1 hx]; exact hy) s1 hP'
    refine ⟨q1, fun k hk h1 => ?_, fun k hk h1 h2 => ?_, fun x hx => q4 x (by rw [List.append_assoc]; exact hx)⟩
    · have a := s2 k hk h1
      rw [List.foldl_cons, q2 k hk (by omega)]; exact a
    · have a := q3 k hk h1 h2
      have b := q2 k hk a
      rw [List.foldl_cons] at h1 h2
      exact s3 k hk a (by omega)
/-- What the distances are behind r rounds. -/
structure DDone (N : Nat) (E : List (Seg × Bool)) (at' : Nat) (r : Nat) (D : List Int) : Prop where
  len : D.length = N
  hi : ∀ k, k < N → -1 ≤ D.getD k 0 ∧ D.getD k 0 ≤ r
  lev : ∀ k, k < N → ∀ m : Nat, (m : Int) + 1 ≤ D.getD k 0 → ∃ j, j < N ∧ D.getD j 0 = m
  cl : ∀ x ∈ E, x.2 = false → (0 ≤ D.getD x.1.fr.toNat 0 ∧ D.getD x.1.fr.toNat 0 < r → 0 ≤ D.getD x.1.to.toNat 0) ∧ (0 ≤ D.getD x.1.to.toNat 0 ∧ D.getD x.1.to.toNat 0 < r → 0 ≤ D.getD x.1.fr.toNat 0)
  start : D.getD at' 0 = 0
theorem done_round {N : Nat} {E : List (Seg × Bool)} {at' r : Nat} {D : List Int} (hE : ∀ x ∈ E, SegIn N x) (ha : at' < N) (h : DDone N E at' r D) : DDone N E at' (r + 1) (dround E D r) := by
  have hi0 : DInv N r D := ⟨h.len, fun k hk => by have := h.hi k hk; omega, h.lev⟩
  obtain ⟨q1, q2, q3, q4⟩ := round_spec E [] hE (fun x hx => by cases hx) hi0 (fun x hx => by cases hx)
  have hs := h.start
  refine ⟨q1.len, fun k hk => by have := q1.hi k hk; unfold dround; omega, q1.lev, fun x hx hc => ?_, by unfold dround; rw [q2 at' ha (by omega)]; exact hs⟩
  obtain ⟨⟨f0, f1⟩, t0, t1⟩ := hE x hx
  have hf : x.1.fr.toNat < N := by omega
  have ht : x.1.to.toNat < N := by omega
  obtain ⟨c1, c2⟩ := q4 x (by simpa using hx) hc
  obtain ⟨d1, d2⟩ := h.cl x hx hc
  unfold dround
  refine ⟨fun ⟨e1, e2⟩ => ?_, fun ⟨e1, e2⟩ => ?_⟩
  · rcases Int.lt_or_le ((E.foldl (dstep r) D).getD x.1.fr.toNat 0) r with e | e
    · have a := q3 _ hf e1 (by omega)
      have b := q2 _ hf a
      have c := d1 ⟨a, by omega⟩
      rw [q2 _ ht c]; exact c
    · exact c1 (by omega)
  · rcases Int.lt_or_le ((E.foldl (dstep r) D).getD x.1.to.toNat 0) r with e | e
    · have a := q3 _ ht e1 (by omega)
      have b := q2 _ ht a
      have c := d2 ⟨a, by omega⟩
      rw [q2 _ hf c]; exact c
    · exact c2 (by omega)
theorem done_all {N : Nat} {E : List (Seg × Bool)} {at' : Nat} {D : List Int} (hE : ∀ x ∈ E, SegIn N x) (ha : at' < N) (h : DDone N E at' 0 D) : ∀ r : Nat, DDone N E at' r ((List.range r).foldl (dround E) D)
  | 0 => h
  | r + 1 => by
    rw [List.range_succ, List.foldl_append]
    exact done_round hE ha (done_all hE ha h r)
/-- As many levels as nodes are not needed. -/
theorem lev_lt {N : Nat} {D : List Int} (hl : D.length = N) (hv : ∀ k, k < N → ∀ m : Nat, (m : Int) + 1 ≤ D.getD k 0 → ∃ j, j < N ∧ D.getD j 0 = m) {k : Nat} (hk : k < N) : D.getD k 0 < N := by
  rcases Int.lt_or_le (D.getD k 0) N with h | h
  · exact h
  · exfalso
    obtain ⟨v, hv2⟩ : ∃ v : Nat, D.getD k 0 = v := ⟨(D.getD k 0).toNat, by omega⟩
    have all : ∀ m : Nat, m ≤ v → (m : Int) ∈ D := fun m hm => by
      have mem : ∀ j, j < N → D.getD j 0 = (m : Int) → (m : Int) ∈ D := fun j hj e => by
        rw [List.getD_eq_getElem?_getD, List.getElem?_eq_getElem (by omega)] at e
        rw [← e]; exact List.getElem_mem _
      rcases Nat.lt_or_ge m v with h1 | h1
      · obtain ⟨j, hj, e⟩ := hv k hk m (by omega)
        exact mem j hj e
      · exact mem k hk (by omega)
    have sub : ((List.range (v + 1)).map fun m : Nat => (m : Int)).length ≤ D.length := by
      refine List.Nodup.length_le_of_subset ?_ fun x hx => ?_
      · exact List.pairwise_map.2 (List.Pairwise.imp (fun h e => h (by omega)) List.nodup_range)
      · obtain ⟨m, hm, rfl⟩ := List.mem_map.1 hx
        exact all m (by have := List.mem_range.1 hm; omega)
    rw [List.length_map, List.length_range] at sub
    omega
theorem start_done {N : Nat} {E : List (Seg × Bool)} {at' : Nat} (ha : at' < N) : DDone N E at' 0 ((List.replicate N (-1)).set at' 0) := by
  have g : ∀ k, k < N → ((List.replicate N (-1 : Int)).set at' 0).getD k 0 = if at' = k then 0 else -1 := fun k hk => by
    rw [getD_setI _ _ _ _ (by simpa using ha)]
    split
    · rfl
    · rw [List.getD_eq_getElem?_getD, List.getElem?_replicate, if_pos hk]; rfl
  refine ⟨by simp, fun k hk => by rw [g k hk]; split <;> omega, fun k hk m hm => ?_, fun x hx hc => ⟨fun h => by omega, fun h => by omega⟩, by rw [g at' ha, if_pos rfl]⟩
  rw [g k hk] at hm
  split at hm <;> omega
/-- The nodes that are reached: closed under what is open. -/
theorem dist_spec {n : Net} {c : List Bool} {at' : Nat} (hE : ∀ x ∈ n.segs.zip c, SegIn n.nodes.length x) (ha : at' < n.nodes.length) :
    (distL n c at').length = n.nodes.length ∧ (∀ k, k < n.nodes.length → -1 ≤ (distL n c at').getD k 0 ∧ (distL n c at').getD k 0 < n.nodes.length) ∧ (distL n c at').getD at' 0 = 0 ∧
      ∀ x ∈ n.segs.zip c, x.2 = false → (0 ≤ (distL n c at').getD x.1.fr.toNat 0 ↔ 0 ≤ (distL n c at').getD x.1.to.toNat 0) := by
  have h := done_all hE ha (start_done (E := n.segs.zip c) ha) n.nodes.length
  have e : distL n c at' = (List.range n.nodes.length).foldl (dround (n.segs.zip c)) ((List.replicate n.nodes.length (-1)).set at' 0) := rfl
  rw [← e] at h
  have hlt : ∀ k, k < n.nodes.length → (distL n c at').getD k 0 < n.nodes.length := fun k hk => lev_lt h.len h.lev hk
  refine ⟨h.len, fun k hk => ⟨(h.hi k hk).1, hlt k hk⟩, h.start, fun x hx hc => ?_⟩
  obtain ⟨⟨f0, f1⟩, t0, t1⟩ := hE x hx
  obtain ⟨c1, c2⟩ := h.cl x hx hc
  exact ⟨fun e => c1 ⟨e, hlt _ (by omega)⟩, fun e => c2 ⟨e, hlt _ (by omega)⟩⟩
def reachL (n : Net) (c : List Bool) (at' : Nat) : List Nat := (List.range n.nodes.length).filter fun k => decide (0 ≤ (distL n c at').getD k 0)
end Go.Proofs.Ytfkhjkkhdfcnjaa
/- Distances in a network: the reference's functions. -/
namespace Go.Proofs.Ytfkhjkkhdfcnjaa
open Go
set_option linter.unusedVariables false
set_option linter.unusedSimpArgs false
set_option maxRecDepth 100000

theorem iRow_d (R : List Int) (k : Nat) (h : k < R.length) : (R.map iRow).getD k [] = [di (R.getD k 0)] := by
  rw [iRow_at R k h, List.getD_eq_getElem?_getD, List.getElem?_eq_getElem h]; rfl
theorem rep_stepD (N j : Nat) (h : j < N) (x y : Int) : (List.replicate j x ++ List.replicate (N - j) y).set j x = List.replicate (j + 1) x ++ List.replicate (N - (j + 1)) y := by
  rw [List.set_append_right _ _ (by simp), List.length_replicate, Nat.sub_self, show N - j = (N - (j + 1)) + 1 by omega, List.replicate_succ, List.set_cons_zero, List.replicate_succ', List.append_assoc]
  rfl
theorem rep_iD (k : Nat) : List.replicate k [di 0] = (List.replicate k 0).map iRow := by rw [List.map_replicate]; rfl
def DsF (N : Nat) (c : List Bool) (l : List (Nat × D)) : List (Nat × D) := (1, .sl (c.map bRow)) :: (3, .ptr (0, 3) 0 0 0) :: (7, .own (0, 15) 0 0 N) :: l
def DsH (n : Net) (A : List Int) : Hp := (Hp.none.put (0, 15) ⟨0, 1, A.map iRow⟩).put (0, 3) ⟨0, 6, [netD n]⟩
theorem dround_tk {E : List (Seg × Bool)} {i : Nat} (r : Int) (A : List Int) {x : Seg × Bool} (h : E[i]? = some x) : (E.take (i + 1)).foldl (dstep r) A = dstep r ((E.take i).foldl (dstep r) A) x := by
  have hi : i < E.length := by
    rcases Nat.lt_or_ge i E.length with h1 | h1
    · exact h1
    · rw [List.getElem?_eq_none h1] at h; cases h
  rw [← List.take_append_getElem hi, List.foldl_append]
  rw [List.getElem?_eq_getElem hi] at h
  cases h
  rfl
theorem dstep_len (r : Int) (D : List Int) (x : Seg × Bool) : (dstep r D x).length = D.length := by
  unfold dstep
  split
  · rfl
  · dsimp only
    split <;> split <;> simp
theorem fold_dlen (r : Int) : ∀ (E : List (Seg × Bool)) (D : List Int), (E.foldl (dstep r) D).length = D.length
  | [], D => rfl
  | x :: E, D => by rw [List.foldl_cons, fold_dlen r E, dstep_len]
theorem rounds_len (E : List (Seg × Bool)) : ∀ (l : List Nat) (D : List Int), (l.foldl (dround E) D).length = D.length
  | [], D => rfl
  | x :: l, D => by rw [List.foldl_cons, rounds_len E l]; exact fold_dlen _ _ _
set_option maxHeartbeats 16000000 in
theorem dist_c (n : Net) (hv : NetV n) (c : List Bool) (hc : c.length = n.segs.length) (at' : Nat) (ha : at' < n.nodes.length) (nn : Nm) : CallsA Try.prog 133 [n.enc, .sl (c.map bRow), di at'] Hp.none nn (Pu (.sl ((distL n c at').map iRow)) Hp.none) := by
  obtain ⟨code, h1, h2⟩ := c133_ok
  refine callsA_of (T0_ok _) mixed (N := fun t => (0, t)) Try.func133 h1 h2 r133_ok [] false js_nil js_nil' (by simp [Try.f133]) ?_
  have hnl := hv.nl
  have hsl := hv.sl
  have z1 : (8 : Int) * n.nodes.length ≤ 281474976710656 := by omega
  have z2 : (n.nodes.length : Int) ≤ 4611686018427387904 := by omega
  have z3 := idx_nn n.nodes.length
  simp (config := { maxSteps := 500000 }) only [↓vp, vv, implies_true, forall_const, undef, InI, ↓reduceIte, simprocAttr, c133, Net.enc, z1, z2, z3, Int.toNat_natCast, rep_iD]
  refine rng_loop n.nodes.length (fun j => ⟨fr (DsF n.nodes.length c [(2, di at'), (17, di n.nodes.length), (18, di (j : Nat))]), DsH n (List.replicate j (-1) ++ List.replicate (n.nodes.length - j) 0)⟩) (fun _ => True) (weak_eq [] [(0, 3), (0, 15)] (DsF n.nodes.length c [(2, di at'), (17, di n.nodes.length), (18, di 0)]) (by simp (config := { maxSteps := 500000 }) only [↓vp, vv, implies_true, forall_const, undef, InI, ↓reduceIte, simprocAttr, coverS, DsF, DsH, netD, iRow, List.replicate_zero, List.nil_append, Nat.sub_zero]) (by simp (config := { maxSteps := 500000 }) only [↓vp, vv, implies_true, forall_const, undef, InI, ↓reduceIte, simprocAttr, refsF, DsF, DsH, netD, iRow, List.replicate_zero, List.nil_append, Nat.sub_zero]) (by simp (config := { maxSteps := 500000 }) only [↓vp, vv, implies_true, forall_const, undef, InI, ↓reduceIte, simprocAttr, DsF, DsH, netD, iRow, List.replicate_zero, List.nil_append, Nat.sub_zero]) (by simp) (by simp (config := { maxSteps := 500000 }) only [↓vp, vv, implies_true, forall_const, undef, InI, ↓reduceIte, simprocAttr, DsF, DsH, netD, iRow, List.replicate_zero, List.nil_append, Nat.sub_zero]; try rfl)) trivial (fun j hj _ => ?_) (fun _ => ?_)
  · have hj' : (j : Int) < n.nodes.length := by omega
    have hjn := idx_nn j
    have w1 := idx_next (j := j) (by omega)
    have ht := rep_stepD n.nodes.length j hj (-1) 0
    have hl : (List.replicate j (-1 : Int) ++ List.replicate (n.nodes.length - j) 0).length = n.nodes.length := by simp; omega
    generalize List.replicate j (-1 : Int) ++ List.replicate (n.nodes.length - j) 0 = A at ht hl
    have hg := iRow_d A j (by omega)
    have e1 : (A.map iRow).set j [di (-1)] = (List.replicate (j + 1) (-1 : Int) ++ List.replicate (n.nodes.length - (j + 1)) 0).map iRow := by rw [← ht]; exact (List.map_set ..).symm
    have hjA : j < A.length := by omega
    simp (config := { maxSteps := 500000 }) only [↓vp, vv, implies_true, forall_const, undef, InI, ↓reduceIte, simprocAttr, c133_2, c133_1, DsF, DsH, netD, hj, hj', hjn, hjA, Int.toNat_natCast, hg, hl, e1, w1]
    exact rng_next hj (weak_eq [] [(0, 3), (0, 15)] (DsF n.nodes.length c [(2, di at'), (17, di n.nodes.length), (18, di (j + 1 : Nat))]) (by simp (config := { maxSteps := 500000 }) only [↓vp, vv, implies_true, forall_const, undef, InI, ↓reduceIte, simprocAttr, coverS, DsF, DsH, netD, iRow, w1]) (by simp (config := { maxSteps := 500000 }) only [↓vp, vv, implies_true, forall_const, undef, InI, ↓reduceIte, simprocAttr, refsF, DsF, DsH, netD, iRow, w1]) (by simp (config := { maxSteps := 500000 }) only [↓vp, vv, implies_true, forall_const, undef, InI, ↓reduceIte, simprocAttr, DsF, DsH, netD, iRow, w1]) (by simp) (by simp (config := { maxSteps := 500000 }) only [↓vp, vv, implies_true, forall_const, undef, InI, ↓reduceIte, simprocAttr, DsF, DsH, netD, iRow, w1]; try rfl)) trivial
  · rw [Nat.sub_self, List.replicate_zero, List.append_nil]
    have lA : (List.replicate n.nodes.length (-1 : Int)).length = n.nodes.length := List.length_replicate
    have a0 := idx_nn at'
    have a1 : (at' : Int) < n.nodes.length := by omega
    have hg := iRow_d (List.replicate n.nodes.length (-1 : Int)) at' (by simpa using ha)
    have e1 : ((List.replicate n.nodes.length (-1 : Int)).map iRow).set at' [di 0] = ((List.replicate n.nodes.length (-1 : Int)).set at' 0).map iRow := (List.map_set ..).symm
    simp (config := { maxSteps := 500000 }) only [↓vp, vv, implies_true, forall_const, undef, InI, ↓reduceIte, simprocAttr, c133_2, c133_12, DsF, DsH, netD, Int.lt_irrefl, lA, a0, a1, ha, hg, e1, Int.toNat_natCast]
    have lD0 : ((List.replicate n.nodes.length (-1 : Int)).set at' 0).length = n.nodes.length := by simp
    have hD : distL n c at' = (List.range n.nodes.length).foldl (dround (n.segs.zip c)) ((List.replicate n.nodes.length (-1)).set at' 0) := rfl
    obtain ⟨D0, hD0⟩ : ∃ D0, (List.replicate n.nodes.length (-1 : Int)).set at' 0 = D0 := ⟨_, rfl⟩
    rw [hD0] at hD lD0
    rw [hD0, hD]
    have hEl : (n.segs.zip c).length = n.segs.length := by rw [List.length_zip]; omega
    refine rng_loop n.nodes.length (fun r => ⟨fr (DsF n.nodes.length c [(9, di (r : Nat))]), DsH n ((List.range r).foldl (dround (n.segs.zip c)) D0)⟩) (fun _ => True) (weak_eq [] [(0, 3), (0, 15)] (DsF n.nodes.length c [(9, di 0)]) (by simp (config := { maxSteps := 500000 }) only [↓vp, vv, implies_true, forall_const, undef, InI, ↓reduceIte, simprocAttr, coverS, DsF, DsH, netD, iRow, List.range_zero, List.foldl_nil]) (by simp (config := { maxSteps := 500000 }) only [↓vp, vv, implies_true, forall_const, undef, InI, ↓reduceIte, simprocAttr, refsF, DsF, DsH, netD, iRow, List.range_zero, List.foldl_nil]) (by simp (config := { maxSteps := 500000 }) only [↓vp, vv, implies_true, forall_const, undef, InI, ↓reduceIte, simprocAttr, DsF, DsH, netD, iRow, List.range_zero, List.foldl_nil]) (by simp) (by simp (config := { maxSteps := 500000 }) only [↓vp, vv, implies_true, forall_const, undef, InI, ↓reduceIte, simprocAttr, DsF, DsH, netD, iRow, List.range_zero, List.foldl_nil]; try rfl)) trivial (fun r hr _ => ?_) (fun _ => ?_)
    · have hr' : (r : Int) < n.nodes.length := by omega
      have hrn := idx_nn r
      have wr := idx_next (j := r) (by omega)
      have hrs : (List.range (r + 1)).foldl (dround (n.segs.zip c)) D0 = dround (n.segs.zip c) ((List.range r).foldl (dround (n.segs.zip c)) D0) r := by rw [List.range_succ, List.foldl_append]; rfl
      have lR := rounds_len (n.segs.zip c) (List.range r) D0
      generalize (List.range r).foldl (dround (n.segs.zip c)) D0 = Dr at hrs lR
      simp (config := { maxSteps := 500000 }) only [↓vp, vv, implies_true, forall_const, undef, InI, ↓reduceIte, simprocAttr, c133_10, c133_9, DsF, DsH, netD, hr', hrn]
      refine rng_loop n.segs.length (fun i => ⟨fr (DsF n.nodes.length c [(9, di r), (36, .sl (n.segs.map Seg.row)), (37, di n.segs.length), (38, di (i : Nat))]), DsH n (((n.segs.zip c).take i).foldl (dstep r) Dr)⟩) (fun _ => True) (weak_eq [] [(0, 3), (0, 15)] (DsF n.nodes.length c [(9, di r), (36, .sl (n.segs.map Seg.row)), (37, di n.segs.length), (38, di 0)]) (by simp (config := { maxSteps := 500000 }) only [↓vp, vv, implies_true, forall_const, undef, InI, ↓reduceIte, simprocAttr, coverS, DsF, DsH, netD, iRow, List.take_zero, List.foldl_nil]) (by simp (config := { maxSteps := 500000 }) only [↓vp, vv, implies_true, forall_const, undef, InI, ↓reduceIte, simprocAttr, refsF, DsF, DsH, netD, iRow, List.take_zero, List.foldl_nil]) (by simp (config := { maxSteps := 500000 }) only [↓vp, vv, implies_true, forall_const, undef, InI, ↓reduceIte, simprocAttr, DsF, DsH, netD, iRow, List.take_zero, List.foldl_nil]) (by simp) (by simp (config := { maxSteps := 500000 }) only [↓vp, vv, implies_true, forall_const, undef, InI, ↓reduceIte, simprocAttr, DsF, DsH, netD, iRow, List.take_zero, List.foldl_nil]; try rfl)) trivial (fun i hi _ => ?_) (fun _ => ?_)
      · have hi' : (i : Int) < n.segs.length := by omega
        have hin := idx_nn i
        have w1 := idx_next (j := i) (by omega)
        have hic : i < c.length := by omega
        have hic' : (i : Int) < c.length := by omega
        have hgs : (n.segs.map Seg.row).getD i [] = Seg.row n.segs[i] := getD_map Seg.row n.segs i hi
        have hgc := bRow_g c i hic
        have hx := zip_get hi hic
        have hse := hv.se _ (List.getElem_mem hi)
        have ht := dround_tk (E := n.segs.zip c) (r : Int) Dr hx
        have lA := fold_dlen (r : Int) ((n.segs.zip c).take i) Dr
        generalize n.segs[i] = s at hgs hx hse ht
        generalize c[i] = b at hgc hx ht
        generalize ((n.segs.zip c).take i).foldl (dstep r) Dr = A at ht lA
        obtain ⟨Fn, hF⟩ : ∃ Fn : Nat, s.fr = Fn := ⟨s.fr.toNat, by omega⟩
        obtain ⟨Tn, hT⟩ : ∃ Tn : Nat, s.to = Tn := ⟨s.to.toNat, by omega⟩
        have ds : dstep (r : Int) A (s, b) = if b = true then A else (fun D1 : List Int => if D1.getD Tn 0 = r ∧ D1.getD Fn 0 < 0 then D1.set Fn ((r : Int) + 1) else D1) (if A.getD Fn 0 = r ∧ A.getD Tn 0 < 0 then A.set Tn ((r : Int) + 1) else A) := by
          unfold dstep
          dsimp only
          rw [hF, hT]
          rfl
        rw [ds] at ht
        rw [hF, hT] at hse
        have F0 := idx_nn Fn
        have T0' := idx_nn Tn
        have F1 := hse.1.2
        have T1' := hse.2.1.2
        have lAN : A.length = n.nodes.length := by omega
        have FA : Fn < A.length := by omega
        have FN : Fn < n.nodes.length := by omega
        have TN : Tn < n.nodes.length := by omega
        have TA : Tn < A.length := by omega
        have wr1 : IntKind.i64.wrap ((r : Int) + 1) = r + 1 := wrap_i (by omega)
        cases b with
        | true =>
          rw [if_pos rfl] at ht
          simp (config := { maxSteps := 500000 }) only [↓vp, vv, implies_true, forall_const, undef, InI, ↓reduceIte, simprocAttr, c133_7, c133_6, c133_5, DsF, DsH, netD, hi', hin, hic', Int.toNat_natCast, hgs, hgc, Seg.row, hF, hT, w1]
          exact rng_next hi (weak_eq [] [(0, 3), (0, 15)] (DsF n.nodes.length c [(9, di r), (36, .sl (n.segs.map Seg.row)), (37, di n.segs.length), (38, di (i + 1 : Nat))]) (by simp (config := { maxSteps := 500000 }) only [↓vp, vv, implies_true, forall_const, undef, InI, ↓reduceIte, simprocAttr, coverS, DsF, DsH, netD, iRow, w1, ht]) (by simp (config := { maxSteps := 500000 }) only [↓vp, vv, implies_true, forall_const, undef, InI, ↓reduceIte, simprocAttr, refsF, DsF, DsH, netD, iRow, w1, ht]) (by simp (config := { maxSteps := 500000 }) only [↓vp, vv, implies_true, forall_const, undef, InI, ↓reduceIte, simprocAttr, DsF, DsH, netD, iRow, w1, ht]) (by simp) (by simp (config := { maxSteps := 500000 }) only [↓vp, vv, implies_true, forall_const, undef, InI, ↓reduceIte, simprocAttr, DsF, DsH, netD, iRow, w1, ht]; try rfl)) trivial
        | false =>
          rw [if_neg (by simp)] at ht
          have gF := iRow_d A Fn FA
          have gT := iRow_d A Tn TA
          have fin : ∀ D1 : List Int, D1.length = A.length → (if A.getD Fn 0 = r ∧ A.getD Tn 0 < 0 then A.set Tn ((r : Int) + 1) else A) = D1 → ((n.segs.zip c).take (i + 1)).foldl (dstep r) Dr = if D1.getD Tn 0 = r ∧ D1.getD Fn 0 < 0 then D1.set Fn ((r : Int) + 1) else D1 := fun D1 _ e => by rw [ht, e]
          by_cases hpq : A.getD Fn 0 = r ∧ A.getD Tn 0 < 0
          · have hp : (A.getD Fn 0 == (r : Int)) = true := by rw [hpq.1]; simp
            have hq : decide (A.getD Tn 0 < 0) = true := decide_eq_true hpq.2
            obtain ⟨D1, hD1⟩ : ∃ D1, A.set Tn ((r : Int) + 1) = D1 := ⟨_, rfl⟩
            have lD1 : D1.length = A.length := by rw [← hD1, List.length_set]
            have e1 : (A.map iRow).set Tn [di ((r : Int) + 1)] = D1.map iRow := by rw [← hD1]; exact (List.map_set ..).symm
            have g1 : D1.getD Tn 0 = (r : Int) + 1 := by rw [← hD1, getD_setI _ _ _ _ TA, if_pos rfl]
            have gT1 := iRow_d D1 Tn (by omega)
            rw [g1] at gT1
            have b1 : ((r : Int) + 1 == (r : Int)) = false := beq_eq_false_iff_ne.2 (by omega)
            have hfin := fin D1 lD1 (by rw [if_pos hpq, hD1])
            rw [if_neg (fun e => by omega)] at hfin
            simp (config := { maxSteps := 500000 }) only [↓vp, vv, implies_true, forall_const, undef, InI, ↓reduceIte, simprocAttr, c133_7, c133_6, c133_5, c133_4, c133_3, DsF, DsH, netD, hi', hin, hic', Int.toNat_natCast, hgs, hgc, Seg.row, hF, hT, w1, wr1, F0, F1, T0', T1', FA, TA, FN, TN, gF, gT, lAN, hp, hq, e1, gT1, b1, lD1]
            exact rng_next hi (weak_eq [] [(0, 3), (0, 15)] (DsF n.nodes.length c [(9, di r), (36, .sl (n.segs.map Seg.row)), (37, di n.segs.length), (38, di (i + 1 : Nat))]) (by simp (config := { maxSteps := 500000 }) only [↓vp, vv, implies_true, forall_const, undef, InI, ↓reduceIte, simprocAttr, coverS, DsF, DsH, netD, iRow, w1, hfin]) (by simp (config := { maxSteps := 500000 }) only [↓vp, vv, implies_true, forall_const, undef, InI, ↓reduceIte, simprocAttr, refsF, DsF, DsH, netD, iRow, w1, hfin]) (by simp (config := { maxSteps := 500000 }) only [↓vp, vv, implies_true, forall_const, undef, InI, ↓reduceIte, simprocAttr, DsF, DsH, netD, iRow, w1, hfin]) (by simp) (by simp (config := { maxSteps := 500000 }) only [↓vp, vv, implies_true, forall_const, undef, InI, ↓reduceIte, simprocAttr, DsF, DsH, netD, iRow, w1, hfin]; try rfl)) trivial
          · have hfin := fin A rfl (if_neg hpq)
            have e2 : (A.map iRow).set Fn [di ((r : Int) + 1)] = (A.set Fn ((r : Int) + 1)).map iRow := (List.map_set ..).symm
            cases hp : (A.getD Fn 0 == (r : Int)) <;> cases hq : decide (A.getD Tn 0 < 0)
            case true.true => exact absurd ⟨by simpa using hp, of_decide_eq_true hq⟩ hpq
            all_goals
              cases hu : (A.getD Tn 0 == (r : Int)) <;> cases hv2 : decide (A.getD Fn 0 < 0)
              case true.true =>
                rw [if_pos ⟨by simpa using hu, of_decide_eq_true hv2⟩] at hfin
                simp (config := { maxSteps := 500000 }) only [↓vp, vv, implies_true, forall_const, undef, InI, ↓reduceIte, simprocAttr, c133_7, c133_6, c133_5, c133_4, c133_3, DsF, DsH, netD, hi', hin, hic', Int.toNat_natCast, hgs, hgc, Seg.row, hF, hT, w1, wr1, F0, F1, T0', T1', FA, TA, FN, TN, gF, gT, lAN, hp, hq, hu, hv2, e2]
                exact rng_next hi (weak_eq [] [(0, 3), (0, 15)] (DsF n.nodes.length c [(9, di r), (36, .sl (n.segs.map Seg.row)), (37, di n.segs.length), (38, di (i + 1 : Nat))]) (by simp (config := { maxSteps := 500000 }) only [↓vp, vv, implies_true, forall_const, undef, InI, ↓reduceIte, simprocAttr, coverS, DsF, DsH, netD, iRow, w1, hfin]) (by simp (config := { maxSteps := 500000 }) only [↓vp, vv, implies_true, forall_const, undef, InI, ↓reduceIte, simprocAttr, refsF, DsF, DsH, netD, iRow, w1, hfin]) (by simp (config := { maxSteps := 500000 }) only [↓vp, vv, implies_true, forall_const, undef, InI, ↓reduceIte, simprocAttr, DsF, DsH, netD, iRow, w1, hfin]) (by simp) (by simp (config := { maxSteps := 500000 }) only [↓vp, vv, implies_true, forall_const, undef, InI, ↓reduceIte, simprocAttr, DsF, DsH, netD, iRow, w1, hfin]; try rfl)) trivial
              all_goals
                rw [if_neg (fun e => by first | exact absurd e.1 (by simpa using hu) | exact absurd e.2 (of_decide_eq_false hv2))] at hfin
                simp (config := { maxSteps := 500000 }) only [↓vp, vv, implies_true, forall_const, undef, InI, ↓reduceIte, simprocAttr, c133_7, c133_6, c133_5, c133_4, c133_3, DsF, DsH, netD, hi', hin, hic', Int.toNat_natCast, hgs, hgc, Seg.row, hF, hT, w1, wr1, F0, F1, T0', T1', FA, TA, FN, TN, gF, gT, lAN, hp, hq, hu, hv2]
                exact rng_next hi (weak_eq [] [(0, 3), (0, 15)] (DsF n.nodes.length c [(9, di r), (36, .sl (n.segs.map Seg.row)), (37, di n.segs.length), (38, di (i + 1 : Nat))]) (by simp (config := { maxSteps := 500000 }) only [↓vp, vv, implies_true, forall_const, undef, InI, ↓reduceIte, simprocAttr, coverS, DsF, DsH, netD, iRow, w1, hfin]) (by simp (config := { maxSteps := 500000 }) only [↓vp, vv, implies_true, forall_const, undef, InI, ↓reduceIte, simprocAttr, refsF, DsF, DsH, netD, iRow, w1, hfin]) (by simp (config := { maxSteps := 500000 }) only [↓vp, vv, implies_true, forall_const, undef, InI, ↓reduceIte, simprocAttr, DsF, DsH, netD, iRow, w1, hfin]) (by simp) (by simp (config := { maxSteps := 500000 }) only [↓vp, vv, implies_true, forall_const, undef, InI, ↓reduceIte, simprocAttr, DsF, DsH, netD, iRow, w1, hfin]; try rfl)) trivial
      · rw [← hEl, List.take_length]
        have e3 : (n.segs.zip c).foldl (dstep r) Dr = (List.range (r + 1)).foldl (dround (n.segs.zip c)) D0 := hrs.symm
        rw [e3]
        simp (config := { maxSteps := 500000 }) only [↓vp, vv, implies_true, forall_const, undef, InI, ↓reduceIte, simprocAttr, c133_7, c133_8, DsF, DsH, netD, hEl, Int.lt_irrefl, wr]
        exact rng_next hr (weak_eq [] [(0, 3), (0, 15)] (DsF n.nodes.length c [(9, di (r + 1 : Nat))]) (by simp (config := { maxSteps := 500000 }) only [↓vp, vv, implies_true, forall_const, undef, InI, ↓reduceIte, simprocAttr, coverS, DsF, DsH, netD, iRow, wr]) (by simp (config := { maxSteps := 500000 }) only [↓vp, vv, implies_true, forall_const, undef, InI, ↓reduceIte, simprocAttr, refsF, DsF, DsH, netD, iRow, wr]) (by simp (config := { maxSteps := 500000 }) only [↓vp, vv, implies_true, forall_const, undef, InI, ↓reduceIte, simprocAttr, DsF, DsH, netD, iRow, wr]) (by simp) (by simp (config := { maxSteps := 500000 }) only [↓vp, vv, implies_true, forall_const, undef, InI, ↓reduceIte, simprocAttr, DsF, DsH, netD, iRow, wr]; try rfl)) trivial
    · have lF := rounds_len (n.segs.zip c) (List.range n.nodes.length) D0
      generalize (List.range n.nodes.length).foldl (dround (n.segs.zip c)) D0 = A at lF
      have tk : (A.map iRow).take n.nodes.length = A.map iRow := List.take_of_length_le (by simp; omega)
      simp (config := { maxSteps := 500000 }) only [↓vp, vv, implies_true, forall_const, undef, InI, ↓reduceIte, simprocAttr, c133_10, c133_11, r133, DsF, DsH, netD, Int.lt_irrefl, tk, Pu]
      exact ⟨fun j _ d hd => by rw [List.mem_singleton.1 hd]; rfl, by omega⟩
structure DsPre (n : Net) (c : List Bool) (k : Int) : Prop where
  v : NetV n
  l : c.length = n.segs.length
  k : 0 ≤ k ∧ k < n.nodes.length
def selDs (ok : Net → List Bool → Int → Prop) (out : Net → List Bool → Int → D) : List D → Option (Prop × D)
  | [.agg a, .sl rows, .v (.int .i64 k)] => match netOf1 a, lsOf boolOf1 rows with
    | some n, some c => some (ok n c k, out n c k)
    | _, _ => Option.none
  | _ => Option.none
theorem tc_ds {f : FuncId} {T : Tbl} {ok : Net → List Bool → Int → Prop} {out : Net → List Bool → Int → D} (hf : fnOk Try.prog f = true) (h : ∀ n c k, ok n c k → ∀ nn, CallsA Try.prog f [n.enc, .sl (c.map bRow), di k] Hp.none nn (Pu (out n c k) Hp.none)) (hT : TblOk Try.prog T) : TblOk Try.prog (tc f (rowPu (selDs ok out)) T) :=
  tc_pu hf (fun args pre d hs hp nn => by
    unfold selDs at hs
    split at hs
    · split at hs
      · rename_i e1 e2
        cases hs
        rw [netOf1_eq e1, lsOf_eq (fun r x => boolOf1_eq) e2]
        exact h _ _ _ hp nn
      · cases hs
    · cases hs) hT
def TDs1 : Tbl := tc 133 (rowPu (selDs DsPre fun n c k => .sl ((distL n c k.toNat).map iRow))) T0
theorem TDs1_ok : TblOk Try.prog TDs1 := tc_ds f133_ok (fun n c k h nn => by
  have := dist_c n h.v c h.l k.toNat (by have := h.k; omega) nn
  rw [show ((k.toNat : Nat) : Int) = k by have := h.k; omega] at this
  exact this) (T0_ok _)
def rchP (A : List Int) (j : Nat) : List Nat := (List.range j).filter fun k => decide (0 ≤ A.getD k 0)
theorem rchP_succ (A : List Int) (j : Nat) : rchP A (j + 1) = if decide (0 ≤ A.getD j 0) = true then rchP A j ++ [j] else rchP A j := by
  unfold rchP
  rw [List.range_succ, List.filter_append, List.filter_cons, List.filter_nil]
  split
  · rfl
  · exact List.append_nil _
theorem rchP_le (A : List Int) (j : Nat) : (rchP A j).length ≤ j := by
  unfold rchP
  exact Nat.le_trans (List.length_filter_le ..) (by simp)
def RcF2 (A : List Int) (j : Nat) : List (Nat × D) := [(7, .own (0, 1000) (rchP A j).length 0 (rchP A j).length), (8, .sl (A.map iRow)), (15, di A.length), (16, di j)]
def RcH2 (A : List Int) (j : Nat) : Hp := Hp.none.put (0, 1000) ⟨(rchP A j).length, 1, (rchP A j).map nRow⟩
set_option maxHeartbeats 8000000 in
theorem rreach_c (n : Net) (c : List Bool) (k : Int) (h : DsPre n c k) (hc : ∀ x ∈ n.segs.zip c, SegIn n.nodes.length x) (nn : Nm) : CallsA Try.prog 112 [n.enc, .sl (c.map bRow), di k] Hp.none nn (Pu (.sl ((reachL n c k.toNat).map nRow)) Hp.none) := by
  obtain ⟨code, h1, h2⟩ := c112_ok
  refine callsA_of TDs1_ok mixed (N := fun t => (0, t)) Try.func112 h1 h2 r112_ok [] false js_nil js_nil' (by simp [Try.f112]) ?_
  have hn1 : netOf1 [D.sl (n.nodes.map nmRow), .sl (n.segs.map Seg.row), .sl (n.ports.map Port.row), .sl (n.sts.map Stn.row), di n.vap, di n.set] = some n := netOf1_row n
  have hb1 : lsOf boolOf1 (c.map bRow) = some c := lsOf_map boolOf1_row c
  have hds := dist_spec hc (at' := k.toNat) (by have := h.k; omega)
  have hlA := hds.1
  have hnl := h.v.nl
  have hR : reachL n c k.toNat = rchP (distL n c k.toNat) (distL n c k.toNat).length := by unfold reachL rchP; rw [hlA]
  rw [hR]
  simp (config := { maxSteps := 500000 }) only [↓vp, vv, implies_true, forall_const, undef, InI, ↓reduceIte, simprocAttr, c112, TDs1, selDs, Net.enc, hn1, hb1, h]
  generalize distL n c k.toNat = A at hlA
  refine rng_loop A.length (fun j => ⟨fr (RcF2 A j), RcH2 A j⟩) (fun _ => True) ((weak_own 7 (0, 1000) 1 (by simp (config := { maxSteps := 500000 }) only [↓vp, vv, implies_true, forall_const, undef, InI, ↓reduceIte, simprocAttr, ]) (by simp (config := { maxSteps := 500000 }) only [↓vp, vv, implies_true, forall_const, undef, InI, ↓reduceIte, simprocAttr, ])).trans (weak_eq [] [(0, 1000)] (RcF2 A 0) (by simp (config := { maxSteps := 500000 }) only [↓vp, vv, implies_true, forall_const, undef, InI, ↓reduceIte, simprocAttr, coverS, RcF2, RcH2, nRow, rchP, List.range_zero, List.filter_nil]) (by simp (config := { maxSteps := 500000 }) only [↓vp, vv, implies_true, forall_const, undef, InI, ↓reduceIte, simprocAttr, refsF, RcF2, RcH2, nRow, rchP, List.range_zero, List.filter_nil]) (by simp (config := { maxSteps := 500000 }) only [↓vp, vv, implies_true, forall_const, undef, InI, ↓reduceIte, simprocAttr, RcF2, RcH2, nRow, rchP, List.range_zero, List.filter_nil]) (by simp) (by simp (config := { maxSteps := 500000 }) only [↓vp, vv, implies_true, forall_const, undef, InI, ↓reduceIte, simprocAttr, RcF2, RcH2, nRow, rchP, List.range_zero, List.filter_nil]; try rfl))) trivial (fun j hj _ => ?_) (fun _ => ?_)
  · have hj' : (j : Int) < A.length := by omega
    have hjn := idx_nn j
    have w1 := idx_next (j := j) (by omega)
    have hg := iRow_d A j hj
    have d1 := rchP_succ A j
    have l1 := rchP_le A j
    have y1 : ((rchP A j).length + 1) * 8 ≤ 140737488355328 := by omega
    have y2 : (rchP A j).length + 1 ≤ 4611686018427387904 := by omega
    cases hz : decide (0 ≤ A.getD j 0) with
    | true =>
      rw [hz, if_pos rfl] at d1
      simp (config := { maxSteps := 500000 }) only [↓vp, vv, implies_true, forall_const, undef, InI, ↓reduceIte, simprocAttr, c112_3, c112_2, c112_1, RcF2, RcH2, hj', hjn, Int.toNat_natCast, hg, hz, w1, y1, y2, nRow]
      exact rng_next hj (weak_eq [] [(0, 1000)] (RcF2 A (j + 1)) (by simp (config := { maxSteps := 500000 }) only [↓vp, vv, implies_true, forall_const, undef, InI, ↓reduceIte, simprocAttr, coverS, RcF2, RcH2, nRow, w1, d1, List.map_append, List.length_append, List.length_cons, List.length_nil]) (by simp (config := { maxSteps := 500000 }) only [↓vp, vv, implies_true, forall_const, undef, InI, ↓reduceIte, simprocAttr, refsF, RcF2, RcH2, nRow, w1, d1, List.map_append, List.length_append, List.length_cons, List.length_nil]) (by simp (config := { maxSteps := 500000 }) only [↓vp, vv, implies_true, forall_const, undef, InI, ↓reduceIte, simprocAttr, RcF2, RcH2, nRow, w1, d1, List.map_append, List.length_append, List.length_cons, List.length_nil]) (by simp) (by simp (config := { maxSteps := 500000 }) only [↓vp, vv, implies_true, forall_const, undef, InI, ↓reduceIte, simprocAttr, RcF2, RcH2, nRow, w1, d1, List.map_append, List.length_append, List.length_cons, List.length_nil]; try rfl)) trivial
    | false =>
      rw [hz, if_neg (by simp)] at d1
      simp (config := { maxSteps := 500000 }) only [↓vp, vv, implies_true, forall_const, undef, InI, ↓reduceIte, simprocAttr, c112_3, c112_2, c112_1, RcF2, RcH2, hj', hjn, Int.toNat_natCast, hg, hz, w1, nRow]
      exact rng_next hj (weak_eq [] [(0, 1000)] (RcF2 A (j + 1)) (by simp (config := { maxSteps := 500000 }) only [↓vp, vv, implies_true, forall_const, undef, InI, ↓reduceIte, simprocAttr, coverS, RcF2, RcH2, nRow, w1, d1]) (by simp (config := { maxSteps := 500000 }) only [↓vp, vv, implies_true, forall_const, undef, InI, ↓reduceIte, simprocAttr, refsF, RcF2, RcH2, nRow, w1, d1]) (by simp (config := { maxSteps := 500000 }) only [↓vp, vv, implies_true, forall_const, undef, InI, ↓reduceIte, simprocAttr, RcF2, RcH2, nRow, w1, d1]) (by simp) (by simp (config := { maxSteps := 500000 }) only [↓vp, vv, implies_true, forall_const, undef, InI, ↓reduceIte, simprocAttr, RcF2, RcH2, nRow, w1, d1]; try rfl)) trivial
  · simp (config := { maxSteps := 500000 }) only [↓vp, vv, implies_true, forall_const, undef, InI, ↓reduceIte, simprocAttr, c112_3, c112_4, r112, RcF2, RcH2, Int.lt_irrefl, Pu]
    exact fun j _ d hd => by rw [List.mem_singleton.1 hd]; rfl
structure RchPre (n : Net) (c : List Bool) (k : Int) : Prop where
  z : NetSz n
  ck : checkI n = 0
  d : DsPre n c k
  s : ∀ x ∈ n.segs.zip c, SegIn n.nodes.length x
theorem chk13_c (n : Net) (c : List Bool) (k : Int) (h : RchPre n c k) (nn : Nm) : CallsA Try.prog 110 [n.enc, .sl (c.map bRow)] Hp.none nn (Pu (di 0) Hp.none) := by
  obtain ⟨code, h1, h2⟩ := c110_ok
  have hT : TblOk Try.prog (tc 34 (rowPu (selNet fun n => di (checkI n))) T0) := tc_netf f34_ok (fun n hz nn => rcheck_c n hz nn) (T0_ok _)
  refine callsA_of hT mixed (N := fun t => (0, t)) Try.func110 h1 h2 r110_ok [] false js_nil js_nil' (by simp [Try.f110]) ?_
  have hn1 : netOf1 [D.sl (n.nodes.map nmRow), .sl (n.segs.map Seg.row), .sl (n.ports.map Port.row), .sl (n.sts.map Stn.row), di n.vap, di n.set] = some n := netOf1_row n
  have hz := h.z
  have hc := h.ck
  have hl := h.d.l
  simp (config := { maxSteps := 500000 }) only [↓vp, vv, implies_true, forall_const, undef, InI, ↓reduceIte, simprocAttr, c110, r110, c110_1, c110_2, r110, selNet, Net.enc, hn1, hz, hc, hl, bne_self_eq_false, Pu]
theorem node13_c (n : Net) (c : List Bool) (k : Int) (h : RchPre n c k) (nn : Nm) : CallsA Try.prog 111 [n.enc, di k] Hp.none nn (Pu (db true) Hp.none) := by
  obtain ⟨code, h1, h2⟩ := c111_ok
  refine callsA_of (T0_ok _) mixed (N := fun t => (0, t)) Try.func111 h1 h2 r111_ok [] false js_nil js_nil' (by simp [Try.f111]) ?_
  have k1 := h.d.k.1
  have k2 := h.d.k.2
  simp (config := { maxSteps := 500000 }) only [↓vp, vv, implies_true, forall_const, undef, InI, ↓reduceIte, simprocAttr, c111, r111, r111, Net.enc, k1, k2, decide_true, Pu]
/-- The functions at one network, one list and one node. -/
def rowN2 (n : Net) (c : List Bool) (k : Int) : List D → Option (Prop × D)
  | [.agg a, .sl rows] => match netOf1 a, lsOf boolOf1 rows with
    | some n', some c' => some (n' = n ∧ c' = c, di 0)
    | _, _ => Option.none
  | _ => Option.none
def rowN3 (n : Net) (k : Int) : List D → Option (Prop × D)
  | [.agg a, .v (.int .i64 k')] => match netOf1 a with
    | some n' => some (n' = n ∧ k' = k, db true)
    | _ => Option.none
  | _ => Option.none
def TDs2 (n : Net) (c : List Bool) (k : Int) : Tbl := tc 110 (rowPu (rowN2 n c k)) (tc 111 (rowPu (rowN3 n k)) (tc 112 (rowPu (selDs RchPre fun n c k => .sl ((reachL n c k.toNat).map nRow))) T0))
theorem TDs2_ok (n : Net) (c : List Bool) (k : Int) (h : RchPre n c k) : TblOk Try.prog (TDs2 n c k) := by
  refine tc_pu f110_ok (fun args pre d hs hp nn => ?_) (tc_pu f111_ok (fun args pre d hs hp nn => ?_) (tc_ds f112_ok (fun n c k h nn => rreach_c n c k h.d h.s nn) (T0_ok _)))
  · unfold rowN2 at hs
    split at hs
    · split at hs
      · rename_i e1 e2
        cases hs
        rw [netOf1_eq e1, lsOf_eq (fun r x => boolOf1_eq) e2, hp.1, hp.2]
        exact chk13_c n c k h nn
      · cases hs
    · cases hs
  · unfold rowN3 at hs
    split at hs
    · split at hs
      · rename_i e1
        cases hs
        rw [netOf1_eq e1, hp.1, hp.2]
        exact node13_c n c k h nn
      · cases hs
    · cases hs
theorem Reach13_c (n : Net) (c : List Bool) (k : Int) (h : RchPre n c k) (nn : Nm) : CallsA Try.prog 51 [n.enc, .sl (c.map bRow), di k] Hp.none nn (Pu (.tup [.sl ((reachL n c k.toNat).map nRow), di 0]) Hp.none) := by
  obtain ⟨code, h1, h2⟩ := c51_ok
  refine callsA_of (TDs2_ok n c k h) mixed (N := fun t => (0, t)) Try.func51 h1 h2 r51_ok [] false js_nil js_nil' (by simp [Try.f51]) ?_
  have hn1 : netOf1 [D.sl (n.nodes.map nmRow), .sl (n.segs.map Seg.row), .sl (n.ports.map Port.row), .sl (n.sts.map Stn.row), di n.vap, di n.set] = some n := netOf1_row n
  have hb1 : lsOf boolOf1 (c.map bRow) = some c := lsOf_map boolOf1_row c
  simp (config := { maxSteps := 500000 }) only [↓vp, vv, implies_true, forall_const, undef, InI, ↓reduceIte, simprocAttr, c51, r51, c51_1, c51_2, r51, TDs2, rowN2, rowN3, selDs, Net.enc, hn1, hb1, h, bne_self_eq_false, Pu]
def nots (R : List Bool) (j : Nat) : List Bool := (R.take j).map (fun b => !b)
theorem nots_len {R : List Bool} {j : Nat} (h : j ≤ R.length) : (nots R j).length = j := by unfold nots; rw [List.length_map, List.length_take]; omega
theorem nots_succ {R : List Bool} {j : Nat} (h : j < R.length) : nots R (j + 1) = nots R j ++ [!R[j]] := by unfold nots; rw [← List.take_append_getElem h, List.map_append]; rfl
def ShF (R : List Bool) (j : Nat) : List (Nat × D) := [(7, .own (0, 1000) j 0 j), (18, .sl (R.map bRow)), (19, di R.length), (20, di j)]
def ShH (R : List Bool) (j : Nat) : Hp := Hp.none.put (0, 1000) ⟨j, 1, (nots R j).map bRow⟩
end Go.Proofs.Ytfkhjkkhdfcnjaa
