/- RouteAnswers: DsA Ra1 CodeRA. -/
import Derived.Test.YtadjhfjiimgddaaYr10
import Derived.Test.YtadjhfjiimgddaaYr11
import Derived.Test.YtadjhfjiimgddaaYr12
import Derived.Test.YtadjhfjiimgddaaYr3
import Derived.Test.YtadjhfjiimgddaaProg
set_option linter.unusedSimpArgs false
set_option linter.unusedVariables false
set_option maxRecDepth 100000

/- Distances in a network: the plain laws. -/
/- Distances in a network: the plain laws. -/
namespace Go.Proofs.Ytadjhfjiimgddaa
open Go
def dstep (r : Int) (D : List Int) (x : Seg × Bool) : List Int :=
 if x.2 = true then D else
  (fun D1 : List Int => if D1.getD x.1.to.toNat 0 = r ∧ D1.getD x.1.fr.toNat 0 < 0 then D1.set x.1.fr.toNat (r + 1) else D1)
   (if D.getD x.1.fr.toNat 0 = r ∧ D.getD x.1.to.toNat 0 < 0 then D.set x.1.to.toNat (r + 1) else D)
def dround (E : List (Seg × Bool)) (D : List Int) (r : Nat) : List Int := E.foldl (dstep r) D
def distL (n : Net) (c : List Bool) (at' : Nat) : List Int := (List.range n.nodes.length).foldl (dround (n.segs.zip c)) ((List.replicate n.nodes.length (-1)).set at' 0)
theorem getD_setI (A : List Int) (i k : Nat) (v : Int) (h : i < A.length) : (A.set i v).getD k 0 = if i = k then v else A.getD k 0 := by
 rw [List.getD_eq_getElem?_getD, List.getD_eq_getElem?_getD, List.getElem?_set]
 split
 ·rename_i e; subst e; simp [h]
 ·rfl
structure DInv (N : Nat) (r : Int) (D : List Int) : Prop where
 len : D.length = N
 hi : ∀ k, k < N → -1 ≤ D.getD k 0 ∧ D.getD k 0 ≤ r + 1
 /-- each level is reached from the one below -/
 lev : ∀ k, k < N → ∀ m : Nat, (m : Int) + 1 ≤ D.getD k 0 → ∃ j, j < N ∧ D.getD j 0 = m
def SegIn (N : Nat) (x : Seg × Bool) : Prop := (0 ≤ x.1.fr ∧ x.1.fr < N) ∧ 0 ≤ x.1.to ∧ x.1.to < N
theorem set_inv {N : Nat} {r : Int} {D : List Int} (h0 : 0 ≤ r) (h : DInv N r D) {i j : Nat} (hi : i < N) (hj : j < N) (h1 : D.getD j 0 = r) (h2 : D.getD i 0 < 0) : DInv N r (D.set i (r + 1)) := by
 have hl := h.len
 refine ⟨by rw [List.length_set]; exact hl, fun k hk => ?_, fun k hk m hm => ?_⟩
 ·rw [getD_setI _ _ _ _ (by omega)]
  have := h.hi k hk
  split <;> omega
 ·rw [getD_setI _ _ _ _ (by omega)] at hm
  have back : ∀ q, q < N → D.getD q 0 = (m : Int) → ∃ j, j < N ∧ (D.set i (r + 1)).getD j 0 = m := fun q hq he => ⟨q, hq, by
   rw [getD_setI _ _ _ _ (by omega), if_neg (fun e => by subst e; omega)]
   exact he⟩
  split at hm
  ·rcases Int.lt_or_le (m : Int) r with h3 | h3
   ·obtain ⟨q, hq, he⟩ := h.lev j hj m (by omega)
    exact back q hq he
   ·exact back j hj (by omega)
  ·obtain ⟨q, hq, he⟩ := h.lev k hk m hm
   exact back q hq he
theorem step_spec {N : Nat} {r : Nat} {D : List Int} (h : DInv N r D) {x : Seg × Bool} (hx : SegIn N x) :
  DInv N r (dstep r D x) ∧ (∀ k, k < N → 0 ≤ D.getD k 0 → (dstep r D x).getD k 0 = D.getD k 0) ∧ (∀ k, k < N → 0 ≤ (dstep r D x).getD k 0 → (dstep r D x).getD k 0 ≤ r → 0 ≤ D.getD k 0) ∧
   (x.2 = false → ((dstep r D x).getD x.1.fr.toNat 0 = r → 0 ≤ (dstep r D x).getD x.1.to.toNat 0) ∧ ((dstep r D x).getD x.1.to.toNat 0 = r → 0 ≤ (dstep r D x).getD x.1.fr.toNat 0)) := by
 obtain ⟨⟨f0, f1⟩, t0, t1⟩ := hx
 have hl := h.len
 have hf : x.1.fr.toNat < N := by omega
 have ht : x.1.to.toNat < N := by omega
 generalize hF : x.1.fr.toNat = F at hf
 generalize hT : x.1.to.toNat = T at ht
 have one : ∀ (D : List Int), DInv N r D → ∀ i j, i < N → j < N → D.getD j 0 = (r : Int) → D.getD i 0 < 0 → DInv N r (D.set i ((r : Int) + 1)) ∧ (∀ k, k < N → 0 ≤ D.getD k 0 → (D.set i ((r : Int) + 1)).getD k 0 = D.getD k 0) ∧ (∀ k, k < N → 0 ≤ (D.set i ((r : Int) + 1)).getD k 0 → (D.set i ((r : Int) + 1)).getD k 0 ≤ r → 0 ≤ D.getD k 0) ∧ (D.set i ((r : Int) + 1)).getD i 0 = (r : Int) + 1 := fun D h i j hi hj h1 h2 => by
  have hl := h.len
  refine ⟨set_inv (by omega) h hi hj h1 h2, fun k hk h3 => ?_, fun k hk h3 h4 => ?_, ?_⟩
  ·rw [getD_setI _ _ _ _ (by omega), if_neg (fun e => by subst e; omega)]
  ·rw [getD_setI _ _ _ _ (by omega)] at h3 h4
   split at h3
   ·rename_i e; rw [if_pos e] at h4; omega
   ·exact h3
  ·rw [getD_setI _ _ _ _ (by omega), if_pos rfl]
 unfold dstep
 rw [hF, hT]
 by_cases hc : x.2 = true
 ·rw [if_pos hc]
  exact ⟨h, fun _ _ _ => rfl, fun _ _ h1 _ => h1, fun e => by rw [e] at hc; cases hc⟩
 ·rw [if_neg hc]
  by_cases a : D.getD F 0 = (r : Int) ∧ D.getD T 0 < 0
  ·rw [if_pos a]
   obtain ⟨i1, i2, i3, i4⟩ := one D h T F ht hf a.1 a.2
   have hFF := i2 F hf (by omega)
   have b : ¬ ((D.set T ((r : Int) + 1)).getD T 0 = (r : Int) ∧ (D.set T ((r : Int) + 1)).getD F 0 < 0) := fun e => by omega
   dsimp only
   rw [if_neg b]
   exact ⟨i1, i2, i3, fun _ => ⟨fun _ => by omega, fun _ => by omega⟩⟩
  ·rw [if_neg a]
   dsimp only
   by_cases b : D.getD T 0 = (r : Int) ∧ D.getD F 0 < 0
   ·rw [if_pos b]
    obtain ⟨i1, i2, i3, i4⟩ := one D h F T hf ht b.1 b.2
    have hTT := i2 T ht (by omega)
    exact ⟨i1, i2, i3, fun _ => ⟨fun _ => by omega, fun _ => by omega⟩⟩
   ·rw [if_neg b]
    refine ⟨h, fun _ _ _ => rfl, fun _ _ h1 _ => h1, fun _ => ⟨fun e => ?_, fun e => ?_⟩⟩
    ·rcases Int.lt_or_le (D.getD T 0) 0 with q | q
     ·exact absurd ⟨e, q⟩ a
     ·exact q
    ·rcases Int.lt_or_le (D.getD F 0) 0 with q | q
     ·exact absurd ⟨e, q⟩ b
     ·exact q
theorem round_spec {N r : Nat} : ∀ (E : List (Seg × Bool)) (P : List (Seg × Bool)) {D : List Int}, (∀ x ∈ E, SegIn N x) → (∀ x ∈ P, SegIn N x) → DInv N r D → (∀ x ∈ P, x.2 = false → (D.getD x.1.fr.toNat 0 = r → 0 ≤ D.getD x.1.to.toNat 0) ∧ (D.getD x.1.to.toNat 0 = r → 0 ≤ D.getD x.1.fr.toNat 0)) →
  DInv N r (E.foldl (dstep r) D) ∧ (∀ k, k < N → 0 ≤ D.getD k 0 → (E.foldl (dstep r) D).getD k 0 = D.getD k 0) ∧ (∀ k, k < N → 0 ≤ (E.foldl (dstep r) D).getD k 0 → (E.foldl (dstep r) D).getD k 0 ≤ r → 0 ≤ D.getD k 0) ∧ (∀ x ∈ P ++ E, x.2 = false → ((E.foldl (dstep r) D).getD x.1.fr.toNat 0 = r → 0 ≤ (E.foldl (dstep r) D).getD x.1.to.toNat 0) ∧ ((E.foldl (dstep r) D).getD x.1.to.toNat 0 = r → 0 ≤ (E.foldl (dstep r) D).getD x.1.fr.toNat 0))
 | [], P, D, _, _, h, hP => ⟨h, fun _ _ _ => rfl, fun _ _ h1 _ => h1, by rw [List.append_nil]; exact hP⟩
 | y :: E, P, D, hE, hPi, h, hP => by
  have hy := hE y (List.mem_cons_self ..)
  obtain ⟨s1, s2, s3, s4⟩ := step_spec h hy
  have hP' : ∀ x ∈ P ++ [y], x.2 = false → ((dstep r D y).getD x.1.fr.toNat 0 = r → 0 ≤ (dstep r D y).getD x.1.to.toNat 0) ∧ ((dstep r D y).getD x.1.to.toNat 0 = r → 0 ≤ (dstep r D y).getD x.1.fr.toNat 0) := fun x hx hc => by
   rcases List.mem_append.1 hx with hx | hx
   ·obtain ⟨⟨f0, f1⟩, t0, t1⟩ := hPi x hx
    obtain ⟨p1, p2⟩ := hP x hx hc
    have hf : x.1.fr.toNat < N := by omega
    have ht : x.1.to.toNat < N := by omega
    refine ⟨fun e => ?_, fun e => ?_⟩
    ·have a := s3 _ hf (by omega) (by omega)
     have b := s2 _ hf a
     have c := p1 (by omega)
     rw [s2 _ ht c]; exact c
    ·have a := s3 _ ht (by omega) (by omega)
     have b := s2 _ ht a
     have c := p2 (by omega)
     rw [s2 _ hf c]; exact c
   ·rw [List.mem_singleton.1 hx] at hc ⊢
    exact s4 hc
  obtain ⟨q1, q2, q3, q4⟩ := round_spec E (P ++ [y]) (fun x hx => hE x (List.mem_cons_of_mem _ hx)) (fun x hx => by
   rcases List.mem_append.1 hx with hx | hx
   ·exact hPi x hx
   ·rw [List.mem_singleton.1 hx]; exact hy) s1 hP'
  refine ⟨q1, fun k hk h1 => ?_, fun k hk h1 h2 => ?_, fun x hx => q4 x (by rw [List.append_assoc]; exact hx)⟩
  ·have a := s2 k hk h1
   rw [List.foldl_cons, q2 k hk (by omega)]; exact a
  ·have a := q3 k hk h1 h2
   have b := q2 k hk a
   rw [List.foldl_cons] at h1 h2
   exact s3 k hk a (by omega)
structure DDone (N : Nat) (E : List (Seg × Bool)) (at' : Nat) (r : Nat) (D : List Int) : Prop where
 len : D.length = N
 hi : ∀ k, k < N → -1 ≤ D.getD k 0 ∧ D.getD k 0 ≤ r
 lev : ∀ k, k < N → ∀ m : Nat, (m : Int) + 1 ≤ D.getD k 0 → ∃ j, j < N ∧ D.getD j 0 = m
 cl : ∀ x ∈ E, x.2 = false → (0 ≤ D.getD x.1.fr.toNat 0 ∧ D.getD x.1.fr.toNat 0 < r → 0 ≤ D.getD x.1.to.toNat 0) ∧ (0 ≤ D.getD x.1.to.toNat 0 ∧ D.getD x.1.to.toNat 0 < r → 0 ≤ D.getD x.1.fr.toNat 0)
 start : D.getD at' 0 = 0
theorem done_round {N : Nat} {E : List (Seg × Bool)} {at' r : Nat} {D : List Int} (hE : ∀ x ∈ E, SegIn N x) (ha : at' < N) (h : DDone N E at' r D) : DDone N E at' (r + 1) (dround E D r) := by
 have hi0 : DInv N r D := ⟨h.len, fun k hk => by have := h.hi k hk; omega, h.lev⟩
 obtain ⟨q1, q2, q3, q4⟩ := round_spec E [] hE (fun x hx => by cases hx) hi0 (fun x hx => by cases hx)
 have hs := h.start
 refine ⟨q1.len, fun k hk => by have := q1.hi k hk; unfold dround; omega, q1.lev, fun x hx hc => ?_, by unfold dround; rw [q2 at' ha (by omega)]; exact hs⟩
 obtain ⟨⟨f0, f1⟩, t0, t1⟩ := hE x hx
 have hf : x.1.fr.toNat < N := by omega
 have ht : x.1.to.toNat < N := by omega
 obtain ⟨c1, c2⟩ := q4 x (by simpa using hx) hc
 obtain ⟨d1, d2⟩ := h.cl x hx hc
 unfold dround
 refine ⟨fun ⟨e1, e2⟩ => ?_, fun ⟨e1, e2⟩ => ?_⟩
 ·rcases Int.lt_or_le ((E.foldl (dstep r) D).getD x.1.fr.toNat 0) r with e | e
  ·have a := q3 _ hf e1 (by omega)
   have b := q2 _ hf a
   have c := d1 ⟨a, by omega⟩
   rw [q2 _ ht c]; exact c
  ·exact c1 (by omega)
 ·rcases Int.lt_or_le ((E.foldl (dstep r) D).getD x.1.to.toNat 0) r with e | e
  ·have a := q3 _ ht e1 (by omega)
   have b := q2 _ ht a
   have c := d2 ⟨a, by omega⟩
   rw [q2 _ hf c]; exact c
  ·exact c2 (by omega)
theorem done_all {N : Nat} {E : List (Seg × Bool)} {at' : Nat} {D : List Int} (hE : ∀ x ∈ E, SegIn N x) (ha : at' < N) (h : DDone N E at' 0 D) : ∀ r : Nat, DDone N E at' r ((List.range r).foldl (dround E) D)
 | 0 => h
 | r + 1 => by
  rw [List.range_succ, List.foldl_append]
  exact done_round hE ha (done_all hE ha h r)
theorem lev_lt {N : Nat} {D : List Int} (hl : D.length = N) (hv : ∀ k, k < N → ∀ m : Nat, (m : Int) + 1 ≤ D.getD k 0 → ∃ j, j < N ∧ D.getD j 0 = m) {k : Nat} (hk : k < N) : D.getD k 0 < N := by
 rcases Int.lt_or_le (D.getD k 0) N with h | h
 ·exact h
 ·exfalso
  obtain ⟨v, hv2⟩ : ∃ v : Nat, D.getD k 0 = v := ⟨(D.getD k 0).toNat, by omega⟩
  have all : ∀ m : Nat, m ≤ v → (m : Int) ∈ D := fun m hm => by
   have mem : ∀ j, j < N → D.getD j 0 = (m : Int) → (m : Int) ∈ D := fun j hj e => by
    rw [List.getD_eq_getElem?_getD, List.getElem?_eq_getElem (by omega)] at e
    rw [← e]; exact List.getElem_mem _
   rcases Nat.lt_or_ge m v with h1 | h1
   ·obtain ⟨j, hj, e⟩ := hv k hk m (by omega)
    exact mem j hj e
   ·exact mem k hk (by omega)
  have sub : ((List.range (v + 1)).map fun m : Nat => (m : Int)).length ≤ D.length := by
   refine List.Nodup.length_le_of_subset ?_ fun x hx => ?_
   ·exact List.pairwise_map.2 (List.Pairwise.imp (fun h e => h (by omega)) List.nodup_range)
   ·obtain ⟨m, hm, rfl⟩ := List.mem_map.1 hx
    exact all m (by have := List.mem_range.1 hm; omega)
  rw [List.length_map, List.length_range] at sub
  omega
theorem start_done {N : Nat} {E : List (Seg × Bool)} {at' : Nat} (ha : at' < N) : DDone N E at' 0 ((List.replicate N (-1)).set at' 0) := by
 have g : ∀ k, k < N → ((List.replicate N (-1 : Int)).set at' 0).getD k 0 = if at' = k then 0 else -1 := fun k hk => by
  rw [getD_setI _ _ _ _ (by simpa using ha)]
  split
  ·rfl
  ·rw [List.getD_eq_getElem?_getD, List.getElem?_replicate, if_pos hk]; rfl
 refine ⟨by simp, fun k hk => by rw [g k hk]; split <;> omega, fun k hk m hm => ?_, fun x hx hc => ⟨fun h => by omega, fun h => by omega⟩, by rw [g at' ha, if_pos rfl]⟩
 rw [g k hk] at hm
 split at hm <;> omega
theorem dist_spec {n : Net} {c : List Bool} {at' : Nat} (hE : ∀ x ∈ n.segs.zip c, SegIn n.nodes.length x) (ha : at' < n.nodes.length) :
  (distL n c at').length = n.nodes.length ∧ (∀ k, k < n.nodes.length → -1 ≤ (distL n c at').getD k 0 ∧ (distL n c at').getD k 0 < n.nodes.length) ∧ (distL n c at').getD at' 0 = 0 ∧
   ∀ x ∈ n.segs.zip c, x.2 = false → (0 ≤ (distL n c at').getD x.1.fr.toNat 0 ↔ 0 ≤ (distL n c at').getD x.1.to.toNat 0) := by
 have h := done_all hE ha (start_done (E := n.segs.zip c) ha) n.nodes.length
 have e : distL n c at' = (List.range n.nodes.length).foldl (dround (n.segs.zip c)) ((List.replicate n.nodes.length (-1)).set at' 0) := rfl
 rw [← e] at h
 have hlt : ∀ k, k < n.nodes.length → (distL n c at').getD k 0 < n.nodes.length := fun k hk => lev_lt h.len h.lev hk
 refine ⟨h.len, fun k hk => ⟨(h.hi k hk).1, hlt k hk⟩, h.start, fun x hx hc => ?_⟩
 obtain ⟨⟨f0, f1⟩, t0, t1⟩ := hE x hx
 obtain ⟨c1, c2⟩ := h.cl x hx hc
 exact ⟨fun e => c1 ⟨e, hlt _ (by omega)⟩, fun e => c2 ⟨e, hlt _ (by omega)⟩⟩
def reachL (n : Net) (c : List Bool) (at' : Nat) : List Nat := (List.range n.nodes.length).filter fun k => decide (0 ≤ (distL n c at').getD k 0)
theorem iRow_d (R : List Int) (k : Nat) (h : k < R.length) : (R.map iRow).getD k [] = [di (R.getD k 0)] := by
 rw [iRow_at R k h, List.getD_eq_getElem?_getD, List.getElem?_eq_getElem h]; rfl
theorem rep_stepD (N j : Nat) (h : j < N) (x y : Int) : (List.replicate j x ++ List.replicate (N - j) y).set j x = List.replicate (j + 1) x ++ List.replicate (N - (j + 1)) y := by
 rw [List.set_append_right _ _ (by simp), List.length_replicate, Nat.sub_self, show N - j = (N - (j + 1)) + 1 by omega, List.replicate_succ, List.set_cons_zero, List.replicate_succ', List.append_assoc]
 rfl
theorem rep_iD (k : Nat) : List.replicate k [di 0] = (List.replicate k 0).map iRow := by rw [List.map_replicate]; rfl
def DsF (N : Nat) (c : List Bool) (l : List (Nat × D)) : List (Nat × D) := (1, .sl (c.map bRow)) :: (3, .ptr (0, 3) 0 0 0) :: (7, .own (0, 15) 0 0 N) :: l
def DsH (n : Net) (A : List Int) : Hp := (Hp.none.put (0, 15) ⟨0, 1, A.map iRow⟩).put (0, 3) ⟨0, 6, [netD n]⟩
theorem dround_tk {E : List (Seg × Bool)} {i : Nat} (r : Int) (A : List Int) {x : Seg × Bool} (h : E[i]? = some x) : (E.take (i + 1)).foldl (dstep r) A = dstep r ((E.take i).foldl (dstep r) A) x := by
 have hi : i < E.length := by
  rcases Nat.lt_or_ge i E.length with h1 | h1
  ·exact h1
  ·rw [List.getElem?_eq_none h1] at h; cases h
 rw [← List.take_append_getElem hi, List.foldl_append]
 rw [List.getElem?_eq_getElem hi] at h
 cases h
 rfl
theorem dstep_len (r : Int) (D : List Int) (x : Seg × Bool) : (dstep r D x).length = D.length := by
 unfold dstep
 split
 ·rfl
 ·dsimp only
  split <;> split <;> simp
theorem fold_dlen (r : Int) : ∀ (E : List (Seg × Bool)) (D : List Int), (E.foldl (dstep r) D).length = D.length
 | [], D => rfl
 | x :: E, D => by rw [List.foldl_cons, fold_dlen r E, dstep_len]
theorem rounds_len (E : List (Seg × Bool)) : ∀ (l : List Nat) (D : List Int), (l.foldl (dround E) D).length = D.length
 | [], D => rfl
 | x :: l, D => by rw [List.foldl_cons, rounds_len E l]; exact fold_dlen _ _ _
set_option maxHeartbeats 16000000 in
theorem dist_c (n : Net) (hv : NetV n) (c : List Bool) (hc : c.length = n.segs.length) (at' : Nat) (ha : at' < n.nodes.length) (nn : Nm) : CallsA Try.prog 110 [n.enc, .sl (c.map bRow), di at'] Hp.none nn (Pu (.sl ((distL n c at').map iRow)) Hp.none) := by
 obtain ⟨code, h1, h2⟩ := c110_ok
 refine callsA_of (T0_ok _) mixed (N := fun t => (0, t)) Try.func110 h1 h2 r110_ok [] false js_nil js_nil' (by simp [Try.f110]) ?_
 have hnl := hv.nl
 have hsl := hv.sl
 have z1 : (8 : Int) * n.nodes.length ≤ 281474976710656 := by omega
 have z2 : (n.nodes.length : Int) ≤ 4611686018427387904 := by omega
 have z3 := idx_nn n.nodes.length
 simp (maxSteps:=500000) only [↓vp, vv, ↓reduceIte, simprocAttr, c110, Net.enc, z1, z2, z3, Int.toNat_natCast, rep_iD]
 refine rng_loop n.nodes.length (fun j => ⟨fr (DsF n.nodes.length c [(2, di at'), (17, di n.nodes.length), (18, di (j : Nat))]), DsH n (List.replicate j (-1) ++ List.replicate (n.nodes.length - j) 0)⟩) (fun _ => True) (weak_eqA [] [(0, 3), (0, 15)] (DsF n.nodes.length c [(2, di at'), (17, di n.nodes.length), (18, di 0)]) (by refine ⟨?_, ?_, ?_, by simp, ?_⟩ <;> (simp only [↓vp, vv, ↓reduceIte, simprocAttr, coverS, refsF, DsF, DsH, netD, iRow, List.replicate_zero, List.nil_append, Nat.sub_zero] <;> try rfl))) trivial (fun j hj _ => ?_) (fun _ => ?_)
 ·have hj' : (j : Int) < n.nodes.length := by omega
  have hjn := idx_nn j
  have w1 := idx_next (j := j) (by omega)
  have ht := rep_stepD n.nodes.length j hj (-1) 0
  have hl : (List.replicate j (-1 : Int) ++ List.replicate (n.nodes.length - j) 0).length = n.nodes.length := by simp; omega
  generalize List.replicate j (-1 : Int) ++ List.replicate (n.nodes.length - j) 0 = A at ht hl
  have hg := iRow_d A j (by omega)
  have e1 : (A.map iRow).set j [di (-1)] = (List.replicate (j + 1) (-1 : Int) ++ List.replicate (n.nodes.length - (j + 1)) 0).map iRow := by rw [← ht]; exact (List.map_set ..).symm
  have hjA : j < A.length := by omega
  simp (maxSteps:=500000) only [↓vp, vv, ↓reduceIte, simprocAttr, c110_2, c110_1, DsF, DsH, netD, hj, hj', hjn, hjA, Int.toNat_natCast, hg, hl, e1, w1]
  exact rng_next hj (weak_eqA [] [(0, 3), (0, 15)] (DsF n.nodes.length c [(2, di at'), (17, di n.nodes.length), (18, di (j + 1 : Nat))]) (by refine ⟨?_, ?_, ?_, by simp, ?_⟩ <;> (simp only [↓vp, vv, ↓reduceIte, simprocAttr, coverS, refsF, DsF, DsH, netD, iRow, w1] <;> try rfl))) trivial
 ·rw [Nat.sub_self, List.replicate_zero, List.append_nil]
  have lA : (List.replicate n.nodes.length (-1 : Int)).length = n.nodes.length := List.length_replicate
  have a0 := idx_nn at'
  have a1 : (at' : Int) < n.nodes.length := by omega
  have hg := iRow_d (List.replicate n.nodes.length (-1 : Int)) at' (by simpa using ha)
  have e1 : ((List.replicate n.nodes.length (-1 : Int)).map iRow).set at' [di 0] = ((List.replicate n.nodes.length (-1 : Int)).set at' 0).map iRow := (List.map_set ..).symm
  simp (maxSteps:=500000) only [↓vp, vv, ↓reduceIte, simprocAttr, c110_2, c110_12, DsF, DsH, netD, Int.lt_irrefl, lA, a0, a1, ha, hg, e1, Int.toNat_natCast]
  have lD0 : ((List.replicate n.nodes.length (-1 : Int)).set at' 0).length = n.nodes.length := by simp
  have hD : distL n c at' = (List.range n.nodes.length).foldl (dround (n.segs.zip c)) ((List.replicate n.nodes.length (-1)).set at' 0) := rfl
  obtain ⟨D0, hD0⟩ : ∃ D0, (List.replicate n.nodes.length (-1 : Int)).set at' 0 = D0 := ⟨_, rfl⟩
  rw [hD0] at hD lD0
  rw [hD0, hD]
  have hEl : (n.segs.zip c).length = n.segs.length := by rw [List.length_zip]; omega
  refine rng_loop n.nodes.length (fun r => ⟨fr (DsF n.nodes.length c [(9, di (r : Nat))]), DsH n ((List.range r).foldl (dround (n.segs.zip c)) D0)⟩) (fun _ => True) (weak_eqA [] [(0, 3), (0, 15)] (DsF n.nodes.length c [(9, di 0)]) (by refine ⟨?_, ?_, ?_, by simp, ?_⟩ <;> (simp only [↓vp, vv, ↓reduceIte, simprocAttr, coverS, refsF, DsF, DsH, netD, iRow, List.range_zero, List.foldl_nil] <;> try rfl))) trivial (fun r hr _ => ?_) (fun _ => ?_)
  ·have hr' : (r : Int) < n.nodes.length := by omega
   have hrn := idx_nn r
   have wr := idx_next (j := r) (by omega)
   have hrs : (List.range (r + 1)).foldl (dround (n.segs.zip c)) D0 = dround (n.segs.zip c) ((List.range r).foldl (dround (n.segs.zip c)) D0) r := by rw [List.range_succ, List.foldl_append]; rfl
   have lR := rounds_len (n.segs.zip c) (List.range r) D0
   generalize (List.range r).foldl (dround (n.segs.zip c)) D0 = Dr at hrs lR
   simp (maxSteps:=500000) only [↓vp, vv, ↓reduceIte, simprocAttr, c110_10, c110_9, DsF, DsH, netD, hr', hrn]
   refine rng_loop n.segs.length (fun i => ⟨fr (DsF n.nodes.length c [(9, di r), (36, .sl (n.segs.map Seg.row)), (37, di n.segs.length), (38, di (i : Nat))]), DsH n (((n.segs.zip c).take i).foldl (dstep r) Dr)⟩) (fun _ => True) (weak_eqA [] [(0, 3), (0, 15)] (DsF n.nodes.length c [(9, di r), (36, .sl (n.segs.map Seg.row)), (37, di n.segs.length), (38, di 0)]) (by refine ⟨?_, ?_, ?_, by simp, ?_⟩ <;> (simp only [↓vp, vv, ↓reduceIte, simprocAttr, coverS, refsF, DsF, DsH, netD, iRow, List.take_zero, List.foldl_nil] <;> try rfl))) trivial (fun i hi _ => ?_) (fun _ => ?_)
   ·have hi' : (i : Int) < n.segs.length := by omega
    have hin := idx_nn i
    have w1 := idx_next (j := i) (by omega)
    have hic : i < c.length := by omega
    have hic' : (i : Int) < c.length := by omega
    have hgs : (n.segs.map Seg.row).getD i [] = Seg.row n.segs[i] := getD_map Seg.row n.segs i hi
    have hgc := bRow_g c i hic
    have hx := zip_get hi hic
    have hse := hv.se _ (List.getElem_mem hi)
    have ht := dround_tk (E := n.segs.zip c) (r : Int) Dr hx
    have lA := fold_dlen (r : Int) ((n.segs.zip c).take i) Dr
    generalize n.segs[i] = s at hgs hx hse ht
    generalize c[i] = b at hgc hx ht
    generalize ((n.segs.zip c).take i).foldl (dstep r) Dr = A at ht lA
    obtain ⟨Fn, hF⟩ : ∃ Fn : Nat, s.fr = Fn := ⟨s.fr.toNat, by omega⟩
    obtain ⟨Tn, hT⟩ : ∃ Tn : Nat, s.to = Tn := ⟨s.to.toNat, by omega⟩
    have ds : dstep (r : Int) A (s, b) = if b = true then A else (fun D1 : List Int => if D1.getD Tn 0 = r ∧ D1.getD Fn 0 < 0 then D1.set Fn ((r : Int) + 1) else D1) (if A.getD Fn 0 = r ∧ A.getD Tn 0 < 0 then A.set Tn ((r : Int) + 1) else A) := by
     unfold dstep
     dsimp only
     rw [hF, hT]
     rfl
    rw [ds] at ht
    rw [hF, hT] at hse
    have F0 := idx_nn Fn
    have T0' := idx_nn Tn
    have F1 := hse.1.2
    have T1' := hse.2.1.2
    have lAN : A.length = n.nodes.length := by omega
    have FA : Fn < A.length := by omega
    have FN : Fn < n.nodes.length := by omega
    have TN : Tn < n.nodes.length := by omega
    have TA : Tn < A.length := by omega
    have wr1 : IntKind.i64.wrap ((r : Int) + 1) = r + 1 := wrap_i (by omega)
    cases b with
    | true =>
     rw [if_pos rfl] at ht
     simp (maxSteps:=500000) only [↓vp, vv, ↓reduceIte, simprocAttr, c110_7, c110_6, c110_5, DsF, DsH, netD, hi', hin, hic', Int.toNat_natCast, hgs, hgc, Seg.row, hF, hT, w1]
     exact rng_next hi (weak_eqA [] [(0, 3), (0, 15)] (DsF n.nodes.length c [(9, di r), (36, .sl (n.segs.map Seg.row)), (37, di n.segs.length), (38, di (i + 1 : Nat))]) (by refine ⟨?_, ?_, ?_, by simp, ?_⟩ <;> (simp only [↓vp, vv, ↓reduceIte, simprocAttr, coverS, refsF, DsF, DsH, netD, iRow, w1, ht] <;> try rfl))) trivial
    | false =>
     rw [if_neg (by simp)] at ht
     have gF := iRow_d A Fn FA
     have gT := iRow_d A Tn TA
     have fin : ∀ D1 : List Int, D1.length = A.length → (if A.getD Fn 0 = r ∧ A.getD Tn 0 < 0 then A.set Tn ((r : Int) + 1) else A) = D1 → ((n.segs.zip c).take (i + 1)).foldl (dstep r) Dr = if D1.getD Tn 0 = r ∧ D1.getD Fn 0 < 0 then D1.set Fn ((r : Int) + 1) else D1 := fun D1 _ e => by rw [ht, e]
     by_cases hpq : A.getD Fn 0 = r ∧ A.getD Tn 0 < 0
     ·have hp : (A.getD Fn 0 == (r : Int)) = true := by rw [hpq.1]; simp
      have hq : decide (A.getD Tn 0 < 0) = true := decide_eq_true hpq.2
      obtain ⟨D1, hD1⟩ : ∃ D1, A.set Tn ((r : Int) + 1) = D1 := ⟨_, rfl⟩
      have lD1 : D1.length = A.length := by rw [← hD1, List.length_set]
      have e1 : (A.map iRow).set Tn [di ((r : Int) + 1)] = D1.map iRow := by rw [← hD1]; exact (List.map_set ..).symm
      have g1 : D1.getD Tn 0 = (r : Int) + 1 := by rw [← hD1, getD_setI _ _ _ _ TA, if_pos rfl]
      have gT1 := iRow_d D1 Tn (by omega)
      rw [g1] at gT1
      have b1 : ((r : Int) + 1 == (r : Int)) = false := beq_eq_false_iff_ne.2 (by omega)
      have hfin := fin D1 lD1 (by rw [if_pos hpq, hD1])
      rw [if_neg (fun e => by omega)] at hfin
      simp (maxSteps:=500000) only [↓vp, vv, ↓reduceIte, simprocAttr, c110_7, c110_6, c110_5, c110_4, c110_3, DsF, DsH, netD, hi', hin, hic', Int.toNat_natCast, hgs, hgc, Seg.row, hF, hT, w1, wr1, F0, F1, T0', T1', FA, TA, FN, TN, gF, gT, lAN, hp, hq, e1, gT1, b1, lD1]
      exact rng_next hi (weak_eqA [] [(0, 3), (0, 15)] (DsF n.nodes.length c [(9, di r), (36, .sl (n.segs.map Seg.row)), (37, di n.segs.length), (38, di (i + 1 : Nat))]) (by refine ⟨?_, ?_, ?_, by simp, ?_⟩ <;> (simp only [↓vp, vv, ↓reduceIte, simprocAttr, coverS, refsF, DsF, DsH, netD, iRow, w1, hfin] <;> try rfl))) trivial
     ·have hfin := fin A rfl (if_neg hpq)
      have e2 : (A.map iRow).set Fn [di ((r : Int) + 1)] = (A.set Fn ((r : Int) + 1)).map iRow := (List.map_set ..).symm
      cases hp : (A.getD Fn 0 == (r : Int)) <;> cases hq : decide (A.getD Tn 0 < 0)
      case true.true => exact absurd ⟨by simpa using hp, of_decide_eq_true hq⟩ hpq
      all_goals
       cases hu : (A.getD Tn 0 == (r : Int)) <;> cases hv2 : decide (A.getD Fn 0 < 0)
       case true.true =>
        rw [if_pos ⟨by simpa using hu, of_decide_eq_true hv2⟩] at hfin
        simp (maxSteps:=500000) only [↓vp, vv, ↓reduceIte, simprocAttr, c110_7, c110_6, c110_5, c110_4, c110_3, DsF, DsH, netD, hi', hin, hic', Int.toNat_natCast, hgs, hgc, Seg.row, hF, hT, w1, wr1, F0, F1, T0', T1', FA, TA, FN, TN, gF, gT, lAN, hp, hq, hu, hv2, e2]
        exact rng_next hi (weak_eqA [] [(0, 3), (0, 15)] (DsF n.nodes.length c [(9, di r), (36, .sl (n.segs.map Seg.row)), (37, di n.segs.length), (38, di (i + 1 : Nat))]) (by refine ⟨?_, ?_, ?_, by simp, ?_⟩ <;> (simp only [↓vp, vv, ↓reduceIte, simprocAttr, coverS, refsF, DsF, DsH, netD, iRow, w1, hfin] <;> try rfl))) trivial
       all_goals
        rw [if_neg (fun e => by first | exact absurd e.1 (by simpa using hu) | exact absurd e.2 (of_decide_eq_false hv2))] at hfin
        simp (maxSteps:=500000) only [↓vp, vv, ↓reduceIte, simprocAttr, c110_7, c110_6, c110_5, c110_4, c110_3, DsF, DsH, netD, hi', hin, hic', Int.toNat_natCast, hgs, hgc, Seg.row, hF, hT, w1, wr1, F0, F1, T0', T1', FA, TA, FN, TN, gF, gT, lAN, hp, hq, hu, hv2]
        exact rng_next hi (weak_eqA [] [(0, 3), (0, 15)] (DsF n.nodes.length c [(9, di r), (36, .sl (n.segs.map Seg.row)), (37, di n.segs.length), (38, di (i + 1 : Nat))]) (by refine ⟨?_, ?_, ?_, by simp, ?_⟩ <;> (simp only [↓vp, vv, ↓reduceIte, simprocAttr, coverS, refsF, DsF, DsH, netD, iRow, w1, hfin] <;> try rfl))) trivial
   ·rw [← hEl, List.take_length]
    have e3 : (n.segs.zip c).foldl (dstep r) Dr = (List.range (r + 1)).foldl (dround (n.segs.zip c)) D0 := hrs.symm
    rw [e3]
    simp (maxSteps:=500000) only [↓vp, vv, ↓reduceIte, simprocAttr, c110_7, c110_8, DsF, DsH, netD, hEl, Int.lt_irrefl, wr]
    exact rng_next hr (weak_eqA [] [(0, 3), (0, 15)] (DsF n.nodes.length c [(9, di (r + 1 : Nat))]) (by refine ⟨?_, ?_, ?_, by simp, ?_⟩ <;> (simp only [↓vp, vv, ↓reduceIte, simprocAttr, coverS, refsF, DsF, DsH, netD, iRow, wr] <;> try rfl))) trivial
  ·have lF := rounds_len (n.segs.zip c) (List.range n.nodes.length) D0
   generalize (List.range n.nodes.length).foldl (dround (n.segs.zip c)) D0 = A at lF
   have tk : (A.map iRow).take n.nodes.length = A.map iRow := List.take_of_length_le (by simp; omega)
   simp (maxSteps:=500000) only [↓vp, vv, ↓reduceIte, simprocAttr, c110_10, c110_11, r110, DsF, DsH, netD, Int.lt_irrefl, tk, Pu]
   exact ⟨fun j _ d hd => by rw [List.mem_singleton.1 hd]; rfl, by omega⟩
structure DsPre (n : Net) (c : List Bool) (k : Int) : Prop where
 v : NetV n
 l : c.length = n.segs.length
 k : 0 ≤ k ∧ k < n.nodes.length
def selDs (ok : Net → List Bool → Int → Prop) (out : Net → List Bool → Int → D) : List D → Option (Prop × D)
 | [.agg a, .sl rows, .v (.int .i64 k)] => match netOf1 a, lsOf boolOf1 rows with
  | some n, some c => some (ok n c k, out n c k)
  | _, _ => Option.none
 | _ => Option.none
theorem tc_ds {f : FuncId} {T : Tbl} {ok : Net → List Bool → Int → Prop} {out : Net → List Bool → Int → D} (hf : fnOk Try.prog f = true) (h : ∀ n c k, ok n c k → ∀ nn, CallsA Try.prog f [n.enc, .sl (c.map bRow), di k] Hp.none nn (Pu (out n c k) Hp.none)) (hT : TblOk Try.prog T) : TblOk Try.prog (tc f (rowPu (selDs ok out)) T) :=
 tc_pu hf (fun args pre d hs hp nn => by
  unfold selDs at hs
  split at hs
  ·split at hs
   ·rename_i e1 e2
    cases hs
    rw [netOf1_eq e1, lsOf_eq (fun r x => boolOf1_eq) e2]
    exact h _ _ _ hp nn
   ·cases hs
  ·cases hs) hT
def TDs1 : Tbl := tc 110 (rowPu (selDs DsPre fun n c k => .sl ((distL n c k.toNat).map iRow))) T0
theorem TDs1_ok : TblOk Try.prog TDs1 := tc_ds f110_ok (fun n c k h nn => by
 have := dist_c n h.v c h.l k.toNat (by have := h.k; omega) nn
 rw [show ((k.toNat : Nat) : Int) = k by have := h.k; omega] at this
 exact this) (T0_ok _)
def rchP (A : List Int) (j : Nat) : List Nat := (List.range j).filter fun k => decide (0 ≤ A.getD k 0)
theorem rchP_succ (A : List Int) (j : Nat) : rchP A (j + 1) = if decide (0 ≤ A.getD j 0) = true then rchP A j ++ [j] else rchP A j := by
 unfold rchP
 rw [List.range_succ, List.filter_append, List.filter_cons, List.filter_nil]
 split
 ·rfl
 ·exact List.append_nil _
theorem rchP_le (A : List Int) (j : Nat) : (rchP A j).length ≤ j := by
 unfold rchP
 exact Nat.le_trans (List.length_filter_le ..) (by simp)
def RcF2 (A : List Int) (j : Nat) : List (Nat × D) := [(7, .own (0, 1000) (rchP A j).length 0 (rchP A j).length), (8, .sl (A.map iRow)), (15, di A.length), (16, di j)]
def RcH2 (A : List Int) (j : Nat) : Hp := Hp.none.put (0, 1000) ⟨(rchP A j).length, 1, (rchP A j).map nRow⟩
set_option maxHeartbeats 8000000 in
theorem rreach_c (n : Net) (c : List Bool) (k : Int) (h : DsPre n c k) (hc : ∀ x ∈ n.segs.zip c, SegIn n.nodes.length x) (nn : Nm) : CallsA Try.prog 113 [n.enc, .sl (c.map bRow), di k] Hp.none nn (Pu (.sl ((reachL n c k.toNat).map nRow)) Hp.none) := by
 obtain ⟨code, h1, h2⟩ := c113_ok
 refine callsA_of TDs1_ok mixed (N := fun t => (0, t)) Try.func113 h1 h2 r113_ok [] false js_nil js_nil' (by simp [Try.f113]) ?_
 have hn1 := netOf1_x n
 have hb1 : lsOf boolOf1 (c.map bRow) = some c := lsOf_map boolOf1_row c
 have hds := dist_spec hc (at' := k.toNat) (by have := h.k; omega)
 have hlA := hds.1
 have hnl := h.v.nl
 have hR : reachL n c k.toNat = rchP (distL n c k.toNat) (distL n c k.toNat).length := by unfold reachL rchP; rw [hlA]
 rw [hR]
 simp (maxSteps:=500000) only [↓vp, vv, ↓reduceIte, simprocAttr, c113, TDs1, selDs, Net.enc, hn1, hb1, h]
 generalize distL n c k.toNat = A at hlA
 refine rng_loop A.length (fun j => ⟨fr (RcF2 A j), RcH2 A j⟩) (fun _ => True) ((weak_own 7 (0, 1000) 1 (by simp only [↓vp, vv, ↓reduceIte, simprocAttr, ]) (by simp only [↓vp, vv, ↓reduceIte, simprocAttr, ])).trans (weak_eqA [] [(0, 1000)] (RcF2 A 0) (by refine ⟨?_, ?_, ?_, by simp, ?_⟩ <;> (simp only [↓vp, vv, ↓reduceIte, simprocAttr, coverS, refsF, RcF2, RcH2, nRow, rchP, List.range_zero, List.filter_nil] <;> try rfl)))) trivial (fun j hj _ => ?_) (fun _ => ?_)
 ·have hj' : (j : Int) < A.length := by omega
  have hjn := idx_nn j
  have w1 := idx_next (j := j) (by omega)
  have hg := iRow_d A j hj
  have d1 := rchP_succ A j
  have l1 := rchP_le A j
  have y1 : ((rchP A j).length + 1) * 8 ≤ 140737488355328 := by omega
  have y2 : (rchP A j).length + 1 ≤ 4611686018427387904 := by omega
  cases hz : decide (0 ≤ A.getD j 0) with
  | true =>
   rw [hz, if_pos rfl] at d1
   simp (maxSteps:=500000) only [↓vp, vv, ↓reduceIte, simprocAttr, c113_3, c113_2, c113_1, RcF2, RcH2, hj', hjn, Int.toNat_natCast, hg, hz, w1, y1, y2, nRow]
   exact rng_next hj (weak_eqA [] [(0, 1000)] (RcF2 A (j + 1)) (by refine ⟨?_, ?_, ?_, by simp, ?_⟩ <;> (simp only [↓vp, vv, ↓reduceIte, simprocAttr, coverS, refsF, RcF2, RcH2, nRow, w1, d1, List.map_append, List.length_append, List.length_cons, List.length_nil] <;> try rfl))) trivial
  | false =>
   rw [hz, if_neg (by simp)] at d1
   simp (maxSteps:=500000) only [↓vp, vv, ↓reduceIte, simprocAttr, c113_3, c113_2, c113_1, RcF2, RcH2, hj', hjn, Int.toNat_natCast, hg, hz, w1, nRow]
   exact rng_next hj (weak_eqA [] [(0, 1000)] (RcF2 A (j + 1)) (by refine ⟨?_, ?_, ?_, by simp, ?_⟩ <;> (simp only [↓vp, vv, ↓reduceIte, simprocAttr, coverS, refsF, RcF2, RcH2, nRow, w1, d1] <;> try rfl))) trivial
 ·simp (maxSteps:=500000) only [↓vp, vv, ↓reduceIte, simprocAttr, c113_3, c113_4, r113, RcF2, RcH2, Int.lt_irrefl, Pu]
  exact fun j _ d hd => by rw [List.mem_singleton.1 hd]; rfl
structure EInv (N : Nat) (E P : List (Seg × Bool)) (t : Nat) (r : Int) (D : List Int) : Prop where
 len : D.length = N
 lo : ∀ k, k < N → -1 ≤ D.getD k 0
 hi : ∀ k, k < N → D.getD k 0 ≤ r + 1
 z : ∀ k, k < N → (D.getD k 0 = 0 ↔ k = t)
 adj : ∀ x ∈ E, ∀ u w b, ovr x u = some (w, b) → 0 ≤ D.getD u 0 → D.getD u 0 < r → 0 ≤ D.getD w 0 ∧ D.getD w 0 ≤ D.getD u 0 + 1
 adjP : ∀ x ∈ P, ∀ u w b, ovr x u = some (w, b) → D.getD u 0 = r → 0 ≤ D.getD w 0
 back : ∀ k, k < N → 0 < D.getD k 0 → ∃ x ∈ E, ∃ w b, ovr x k = some (w, b) ∧ D.getD w 0 = D.getD k 0 - 1
theorem EInv.set {N : Nat} {E P : List (Seg × Bool)} {t : Nat} {r : Int} {D : List Int} (hE : ∀ x ∈ E, SgIn N x) (hP : ∀ x ∈ P, x ∈ E) (h0 : 0 ≤ r) (ht : t < N) (h : EInv N E P t r D) {j u : Nat} {x : Seg × Bool} {b : Bool} (hx : x ∈ E) (e : ovr x j = some (u, b)) (hu : D.getD u 0 = r) (hj : D.getD j 0 < 0) : EInv N E P t r (D.set j (r + 1)) := by
 have hjN := (ovr_lt (hE x hx) e).2
 have g : ∀ k, (D.set j (r + 1)).getD k 0 = if j = k then r + 1 else D.getD k 0 := fun k => getD_seti D j k (r + 1) (by rw [h.len]; exact hjN)
 have z := h.z t ht
 refine ⟨by rw [List.length_set]; exact h.len, fun k hk => ?_, fun k hk => ?_, fun k hk => ?_, fun y hy a w c ea h1 h2 => ?_, fun y hy a w c ea h1 => ?_, fun k hk h1 => ?_⟩
 ·rw [g k]; have := h.lo k hk; split <;> omega
 ·rw [g k]; have := h.hi k hk; split <;> omega
 ·rw [g k]
  have zk := h.z k hk
  split
  ·rename_i ejk
   subst ejk
   exact ⟨fun q => by omega, fun q => by have := zk.2 q; omega⟩
  ·exact zk
 ·rw [g a] at h1 h2 ⊢
  rw [g w]
  split at h1
  ·rename_i q; rw [if_pos q] at h2; omega
  ·rename_i q
   rw [if_neg q] at h2
   have k := h.adj y hy a w c ea h1 h2
   rw [if_neg q]
   split
   ·rename_i q2; subst q2; omega
   ·exact k
 ·rw [g a] at h1
  rw [g w]
  split at h1
  ·omega
  ·have k := h.adjP y hy a w c ea h1
   split
   ·omega
   ·exact k
 ·rw [g k] at h1 ⊢
  split at h1
  ·rename_i q
   subst q
   refine ⟨x, hx, u, b, e, ?_⟩
   rw [g u, if_pos rfl, if_neg (fun q => by subst q; omega)]
   omega
  ·rename_i q
   obtain ⟨y, hy, w, c, e1, e2⟩ := h.back k hk h1
   refine ⟨y, hy, w, c, e1, ?_⟩
   rw [g w, if_neg q, if_neg (fun q2 => by subst q2; omega)]
   exact e2
theorem ovr_fr {x : Seg × Bool} {N : Nat} (h : SgIn N x) (hc : ¬ x.2 = true) : ∃ b, ovr x x.1.fr.toNat = some (x.1.to.toNat, b) := by
 obtain ⟨⟨a1, a2⟩, a3, a4⟩ := h
 unfold ovr
 rw [if_neg hc, if_pos (by omega)]
 exact ⟨_, rfl⟩
theorem ovr_to {x : Seg × Bool} {N : Nat} (h : SgIn N x) (hc : ¬ x.2 = true) : ∃ b, ovr x x.1.to.toNat = some (x.1.fr.toNat, b) := by
 obtain ⟨⟨a1, a2⟩, a3, a4⟩ := h
 unfold ovr
 rw [if_neg hc]
 split
 ·rename_i e
  exact ⟨false, by congr 2; omega⟩
 ·rw [if_pos (by omega)]
  exact ⟨_, rfl⟩
theorem ovr_two {x : Seg × Bool} {u w : Nat} {b : Bool} (e : ovr x u = some (w, b)) : ¬ x.2 = true ∧ ((u = x.1.fr.toNat ∧ w = x.1.to.toNat) ∨ (u = x.1.to.toNat ∧ w = x.1.fr.toNat)) := by
 unfold ovr at e
 split at e
 ·cases e
 ·rename_i hc
  refine ⟨hc, ?_⟩
  split at e
  ·cases e; exact .inl ⟨by omega, rfl⟩
  ·split at e
   ·cases e; exact .inr ⟨by omega, rfl⟩
   ·cases e
theorem EInv.step {N : Nat} {E P : List (Seg × Bool)} {t : Nat} {r : Int} {D : List Int} (hE : ∀ x ∈ E, SgIn N x) (hP : ∀ x ∈ P, x ∈ E) (h0 : 0 ≤ r) (ht : t < N) (h : EInv N E P t r D) {x : Seg × Bool} (hx : x ∈ E) : EInv N E (P ++ [x]) t r (dstep r D x) := by
 have add : ∀ {D' : List Int}, EInv N E P t r D' → (∀ u w b, ovr x u = some (w, b) → D'.getD u 0 = r → 0 ≤ D'.getD w 0) → EInv N E (P ++ [x]) t r D' := fun k q => ⟨k.len, k.lo, k.hi, k.z, k.adj, fun y hy => by
  rcases List.mem_append.1 hy with hy | hy
  ·exact k.adjP y hy
  ·rw [List.mem_singleton.1 hy]; exact q, k.back⟩
 unfold dstep
 by_cases hc : x.2 = true
 ·rw [if_pos hc]
  exact add h fun u w b e => absurd hc (ovr_two e).1
 rw [if_neg hc]
 dsimp only
 obtain ⟨b1, o1⟩ := ovr_fr (hE x hx) hc
 obtain ⟨b2, o2⟩ := ovr_to (hE x hx) hc
 have f1 := ovr_lt (hE x hx) o1
 have tw : ∀ (u w : Nat) (b : Bool), ovr x u = some (w, b) → (u = x.1.fr.toNat ∧ w = x.1.to.toNat) ∨ (u = x.1.to.toNat ∧ w = x.1.fr.toNat) := fun u w b e => (ovr_two e).2
 generalize x.1.fr.toNat = f at *
 generalize x.1.to.toNat = o at *
 have k1 : EInv N E P t r (if D.getD f 0 = r ∧ D.getD o 0 < 0 then D.set o (r + 1) else D) := by
  split
  ·rename_i q; exact h.set hE hP h0 ht hx o2 q.1 q.2
  ·exact h
 have q1 : (if D.getD f 0 = r ∧ D.getD o 0 < 0 then D.set o (r + 1) else D).getD f 0 = r → 0 ≤ (if D.getD f 0 = r ∧ D.getD o 0 < 0 then D.set o (r + 1) else D).getD o 0 := by
  split
  ·rename_i q
   intro _
   rw [getD_seti D o o _ (by rw [h.len]; exact f1.1), if_pos rfl]
   omega
  ·rename_i q
   intro e
   rcases Int.lt_or_le (D.getD o 0) 0 with c | c
   ·exact absurd ⟨e, c⟩ q
   ·exact c
 generalize (if D.getD f 0 = r ∧ D.getD o 0 < 0 then D.set o (r + 1) else D) = D1 at k1 q1
 have k2 : EInv N E P t r (if D1.getD o 0 = r ∧ D1.getD f 0 < 0 then D1.set f (r + 1) else D1) := by
  split
  ·rename_i q; exact k1.set hE hP h0 ht hx o1 q.1 q.2
  ·exact k1
 refine add k2 fun u w b e hu => ?_
 rcases tw u w b e with ⟨rfl, rfl⟩ | ⟨rfl, rfl⟩
 ·split at hu
  ·rename_i q
   rw [getD_seti D1 u u _ (by rw [k1.len]; exact f1.2), if_pos rfl] at hu
   omega
  ·rename_i q
   rw [if_neg q]
   exact q1 hu
 ·split at hu
  ·rename_i q
   rw [if_pos q, getD_seti D1 w w _ (by rw [k1.len]; exact f1.2), if_pos rfl]
   omega
  ·rename_i q
   rw [if_neg q]
   rcases Int.lt_or_le (D1.getD w 0) 0 with c | c
   ·exact absurd ⟨hu, c⟩ q
   ·exact c
theorem EInv.all {N : Nat} {E : List (Seg × Bool)} {t : Nat} {r : Int} (hE : ∀ x ∈ E, SgIn N x) (h0 : 0 ≤ r) (ht : t < N) : ∀ (F P : List (Seg × Bool)) (D : List Int), (∀ x ∈ F, x ∈ E) → (∀ x ∈ P, x ∈ E) → EInv N E P t r D → EInv N E (P ++ F) t r (F.foldl (dstep r) D)
 | [], P, D, _, _, h => by rw [List.append_nil]; exact h
 | x :: F, P, D, hF, hP, h => by
  have k := EInv.all hE h0 ht F (P ++ [x]) (dstep r D x) (fun y hy => hF y (List.mem_cons_of_mem _ hy)) (fun y hy => by
   rcases List.mem_append.1 hy with hy | hy
   ·exact hP y hy
   ·rw [List.mem_singleton.1 hy]; exact hF x (List.mem_cons_self ..)) (h.step hE hP h0 ht (hF x (List.mem_cons_self ..)))
  rw [List.append_assoc] at k
  exact k
theorem EInv.round {N : Nat} {E : List (Seg × Bool)} {t r : Nat} {D : List Int} (hE : ∀ x ∈ E, SgIn N x) (ht : t < N) (h : EInv N E [] t r D) (hr : ∀ k, k < N → D.getD k 0 ≤ r) : EInv N E [] t ((r + 1 : Nat) : Int) (dround E D r) ∧ ∀ k, k < N → (dround E D r).getD k 0 ≤ (r + 1 : Nat) := by
 have k := EInv.all hE (Int.natCast_nonneg r) ht E [] D (fun x h => h) (fun x h => by cases h) h
 rw [List.nil_append] at k
 refine ⟨⟨k.len, k.lo, fun j hj => by have := k.hi j hj; unfold dround; omega, k.z, fun x hx u w b e h1 h2 => ?_, fun x hx => (by cases hx), k.back⟩, fun j hj => by have := k.hi j hj; unfold dround; omega⟩
 unfold dround at *
 rcases Int.lt_or_le ((E.foldl (dstep (r : Int)) D).getD u 0) r with c | c
 ·exact k.adj x hx u w b e h1 c
 ·have a := k.adjP x hx u w b e (by omega)
  have q := k.hi w (ovr_lt (hE x hx) e).1
  exact ⟨a, by omega⟩
theorem EInv.rounds {N : Nat} {E : List (Seg × Bool)} {t : Nat} {D : List Int} (hE : ∀ x ∈ E, SgIn N x) (ht : t < N) (h : EInv N E [] t 0 D) (hr : ∀ k, k < N → D.getD k 0 ≤ 0) : ∀ m : Nat, EInv N E [] t m ((List.range m).foldl (dround E) D) ∧ ∀ k, k < N → ((List.range m).foldl (dround E) D).getD k 0 ≤ m
 | 0 => ⟨h, hr⟩
 | m + 1 => by
  obtain ⟨a, b⟩ := EInv.rounds hE ht h hr m
  rw [List.range_succ, List.foldl_append]
  exact a.round hE ht b
theorem dist_isD {n : Net} {c : List Bool} {t : Nat} (hE : ∀ x ∈ n.segs.zip c, SgIn n.nodes.length x) (ht : t < n.nodes.length) : IsD n.nodes.length (n.segs.zip c) t (distL n c t) := by
 have g : ∀ k, k < n.nodes.length → ((List.replicate n.nodes.length (-1 : Int)).set t 0).getD k 0 = if t = k then 0 else -1 := fun k hk => by
  rw [getD_seti _ _ _ _ (by rw [List.length_replicate]; exact ht)]
  split
  ·rfl
  ·rw [List.getD_eq_getElem?_getD, List.getElem?_replicate, if_pos hk]; rfl
 have s0 : EInv n.nodes.length (n.segs.zip c) [] t 0 ((List.replicate n.nodes.length (-1)).set t 0) := by
  refine ⟨by rw [List.length_set, List.length_replicate], fun k hk => by rw [g k hk]; split <;> omega, fun k hk => by rw [g k hk]; split <;> omega, fun k hk => ?_, fun x hx u w b e h1 h2 => (by omega), fun x hx => (by cases hx), fun k hk h1 => ?_⟩
  ·rw [g k hk]
   split
   ·rename_i e; exact ⟨fun _ => e.symm, fun _ => rfl⟩
   ·rename_i e; exact ⟨fun q => by omega, fun q => absurd q.symm e⟩
  ·rw [g k hk] at h1
   split at h1 <;> omega
 obtain ⟨a, b⟩ := EInv.rounds hE ht s0 (fun k hk => by rw [g k hk]; split <;> omega) n.nodes.length
 refine ⟨a.len, a.lo, a.z, fun x hx u w c' e h1 => ?_, a.back⟩
 exact a.adj x hx u w c' e h1 (back_lt a.len a.back hE (ovr_lt (hE x hx) e).2)
theorem IsD.uniq {N : Nat} {E : List (Seg × Bool)} {t : Nat} {D D' : List Int} (hE : ∀ x ∈ E, SgIn N x) (ht : t < N) (h : IsD N E t D) (h' : IsD N E t D') : D = D' := by
 have key : ∀ k, k < N → D.getD k 0 = D'.getD k 0 := fun k hk => by
  have l := h.lo k hk
  have l' := h'.lo k hk
  have i1 : ∀ m : Nat, (0 ≤ D.getD k 0 ∧ D.getD k 0 ≤ m) ↔ (0 ≤ D'.getD k 0 ∧ D'.getD k 0 ≤ m) := fun m => (h.iff hE ht hk m).trans (h'.iff hE ht hk m).symm
  have a := i1 (D.getD k 0).toNat
  have b := i1 (D'.getD k 0).toNat
  omega
 refine List.ext_getElem (by rw [h.len, h'.len]) fun k h1 h2 => ?_
 have := key k (by rw [← h.len]; exact h1)
 rw [List.getD_eq_getElem?_getD, List.getD_eq_getElem?_getD, List.getElem?_eq_getElem h1, List.getElem?_eq_getElem h2] at this
 exact this
theorem dist_hops {n : Net} {c : List Bool} (h : RtOk n c) {t : Nat} (ht : t < n.nodes.length) : distL n c t = hopsL n c t := IsD.uniq h.s ht (dist_isD h.s ht) (h.isD ht)
def c52_1 : C := (.ops false [oP 100 (.bin .add (.t 56) (cI 1)), oM 56 100])
def c52_2 : C := (.seq (.block 5 (.seq (.ops false [oP 58 (.iaS 1 (.t 54) (.t 56)), oP 59 (.ld 1 false (.t 58)), oM 16 59]) (.seq (.ops false [oM 60 14, oM 61 16, oP 62 (.bld [(.v (.int .i64 0)), (.v (.bool false))] [(0, (1, (.t 60))), (1, (1, (.t 61)))]), oP 17 (.new [(.v (.int .i64 0)), (.v (.bool false))]), oS (.st 2 (.t 17) (.t 62))])
 (.seq (.ops false [oP 64 (.ld 6 true (.t 4)), oP 65 (.ld 2 true (.t 17)), oB 66 (.call 111 [(.t 64), (.t 65)]), oM 63 66, oP 67 (.ext (.t 63) 0), oP 68 (.ext (.t 63) 1), oM 18 67, oM 19 68]) (.seq (.ops true [oM 69 13, oA 70 (.bin .lss (.t 69) (cI 0)) [0], oA 71 (.mv (.t 70)) [0, 1], oH 72 71 true (.mv (.t 1)) [1, 0, 2], oH 73 71 true (.mv (.t 14)) [1,
 0, 2], oH 74 71 true (.iaS 1 (.t 72) (.t 73)) [0, 1, 2, 4, 3], oH 75 71 true (.ld 1 false (.t 74)) [3, 4, 1, 0, 2, 5], oH 76 71 true (.not (.t 75)) [5, 0, 1, 4, 3, 2, 6], oA 77 (.pick (.t 71) (.t 76) (cB false)) [6, 3, 4, 5, 1, 0, 7, 2], oA 78 (.mv (.t 77)) [7, 0, 1, 5, 4, 3, 6, 2, 8], oH 79 78 true (.mv (.t 18)) [8, 2, 6, 3, 4, 5, 1, 0, 7, 9], oH 80 78 true (.mv (.t 2)) [8, 2, 6, 3, 4, 5, 1, 0,
 7, 9], oH 81 78 true (.bin .eql (.t 79) (.t 80)) [7, 0, 1, 5, 4, 3, 6, 2, 8, 9, 11, 10], oA 82 (.pick (.t 78) (.t 81) (cB false)) [10, 11, 8, 2, 6, 3, 4, 5, 1, 0, 7, 12, 9], oA 83 (.mv (.t 82)) [12, 7, 0, 1, 5, 4, 3, 6, 2, 8, 11, 10, 9, 13], oH 84 83 true (.mv (.t 11)) [13, 9, 10, 11, 8, 2, 6, 3, 4, 5, 1, 0, 7, 12, 14], oH 85 83 true (.mv (.t 19)) [13, 9, 10, 11, 8, 2, 6, 3, 4, 5, 1, 0, 7, 12,
 14], oH 86 83 true (.iaS 1 (.t 84) (.t 85)) [12, 7, 0, 1, 5, 4, 3, 6, 2, 8, 11, 10, 9, 13, 14, 16, 15], oH 87 83 true (.ld 1 false (.t 86)) [15, 16, 13, 9, 10, 11, 8, 2, 6, 3, 4, 5, 1, 0, 7, 12, 14, 17], oH 88 83 true (.mv (.t 11)) [13, 9, 10, 11, 8, 2, 6, 3, 4, 5, 1, 0, 7, 12, 14], oH 89 83 true (.mv (.t 2)) [13, 9, 10, 11, 8, 2, 6, 3, 4, 5, 1, 0, 7, 12, 14], oH 90 83 true (.iaS 1 (.t 88)
 (.t 89)) [12, 7, 0, 1, 5, 4, 3, 6, 2, 8, 11, 10, 9, 13, 14, 20, 19], oH 91 83 true (.ld 1 false (.t 90)) [19, 20, 13, 9, 10, 11, 8, 2, 6, 3, 4, 5, 1, 0, 7, 12, 14, 21], oH 92 83 true (.bin .sub (.t 91) (cI 1)) [21, 12, 7, 0, 1, 5, 4, 3, 6, 2, 8, 11, 10, 9, 13, 20, 19, 14, 22], oH 93 83 true (.bin .eql (.t 87) (.t 92)) [22, 19, 20, 21, 17, 12, 7, 0, 1, 5, 4, 3, 6, 2, 8, 11, 10, 9, 13, 16, 15, 14,
 23, 18], oA 94 (.pick (.t 83) (.t 93) (cB false)) [18, 23, 15, 16, 17, 21, 20, 19, 22, 13, 9, 10, 11, 8, 2, 6, 3, 4, 5, 1, 0, 7, 12, 24, 14]]) (.cond (.t 94) (.seq (.ops false [oM 95 12, oP 96 (.ld 2 true (.t 17)), oP 97 (.bsl 2 1 [(.v (.int .i64 0)), (.v (.bool false))] [(0, (.t 96))]), oP 98 (.app 2 16 (.t 95) (.t 97)), oM 12 98]) (.ops false [oM 99 19,
 oM 13 99])) .skip)))))) c52_1)
def c52_3 : C := (.seq (.ops false [oP 57 (.bin .lss (.t 56) (.t 55))]) (.seq (.cond (.t 57) .skip (.exit 4)) c52_2))
def c52_4 : C := (.ops false [oP 101 (.bin .add (.t 51) (cI 1)), oM 51 101])
def c52_5 : C := (.seq (.block 3 (.seq (.ops false [oM 53 51, oM 14 53]) (.seq (.ops false [oP 54 (.bsl 1 2 [(.v (.bool false))] [(0, (cB false)), (1, (cB true))]), oP 55 (.len (.t 54)), oP 56 (.mv (cI 0))]) (.block 4 (.loop c52_3))))) c52_4)
def c52_6 : C := (.seq (.ops false [oP 52 (.bin .lss (.t 51) (.t 50))]) (.seq (.cond (.t 52) .skip (.exit 2)) c52_5))
def c52_7 : C := (.ops false [oM 102 13, oM 2 102])
def c52_8 : C := (.block 1 (.seq (.ops false [oP 13 (.mv (cI (-1)))]) (.seq (.seq (.ops false [oP 48 (.fa 1 (.t 4)), oP 49 (.ld 1 false (.t 48)), oP 50 (.len (.t 49)), oP 51 (.mv (cI 0))]) (.block 2 (.loop c52_6))) c52_7)))
def c52_9 : C := (.seq (.seq (.ops false [oM 45 2, oM 46 3, oP 47 (.bin .neq (.t 45) (.t 46))]) (.cond (.t 47) .skip (.exit 0))) c52_8)
def c52_10 : C := (.seq (.ops false [oM 103 12, oM 8 103, oP 9 (.mv (cI 0))]) .ret)
def c52_11 : C := (.seq (.ops false [oP 12 (.mv (.c .mt))]) (.seq (.block 0 (.loop c52_9)) c52_10))
def c52_12 : C := (.seq (.ops false [oP 36 (.ld 6 true (.t 4)), oM 37 1, oM 38 3, oP 39 (.call 110 [(.t 36), (.t 37), (.t 38)]), oM 11 39]) (.seq (.seq (.ops false [oM 40 11, oM 41 2, oP 42 (.iaS 1 (.t 40) (.t 41)), oP 43 (.ld 1 false (.t 42)), oP 44 (.bin .lss (.t 43) (cI 0))]) (.cond (.t 44) (.seq (.ops false [oP 8 (.mv (.c .mt)), oP 9 (.mv (cI 11))]) .ret)
 .skip)) c52_11))
def c52_13 : C := (.seq (.seq (.ops false [oP 26 (.ld 6 true (.t 4)), oM 27 2, oB 28 (.call 109 [(.t 26), (.t 27)]), oP 29 (.not (.t 28)), oM 30 29, oG 31 30 false (.ld 6 true (.t 4)), oG 32 30 false (.mv (.t 3)), oD 33 30 false (.call 109 [(.t 31), (.t 32)]) [], oG 34 30 false (.not (.t 33)), oP 35 (.pick (.t 30) (cB true) (.t 34))]) (.cond (.t 35) (.seq (.ops false [oP 8 (.mv (.c .mt)),
 oP 9 (.mv (cI 8))]) .ret) .skip)) c52_12)
def c52 : C := (.seq (.ops false [oP 4 (.box 6 (.t 0)), oP 8 (.mv (.c .mt)), oP 9 (.mv (cI 0))]) (.seq (.seq (.ops false [oP 20 (.ld 6 true (.t 4)), oM 21 1, oB 22 (.call 108 [(.t 20), (.t 21)]), oM 10 22]) (.seq (.ops false [oM 23 10, oP 24 (.bin .neq (.t 23) (cI 0))]) (.cond (.t 24) (.seq (.ops false [oM 25 10, oP 8 (.mv (.c .mt)), oM 9 25]) .ret) .skip)))
 c52_13))
def r52 : List RV := [(.tmp 8), (.tmp 9)]
theorem c52_ok : ∃ code, Try.f52.body = some code ∧ compC Try.prog Try.f52.ntmps code = some (C.strip c52) := ⟨_, rfl, by kernel_rfl⟩
theorem r52_ok : compRes Try.prog Try.f52.results.toList = some r52 := by kernel_rfl
theorem f52_ok : fnOk Try.prog 52 = true := by kernel_rfl
def c56_1 : C := (.seq (.ops false [oP 29 (.bsl 1 0 [(.v (.bool false))] []), oM 30 1, oP 31 (.app 1 1 (.t 29) (.t 30)), oM 9 31]) (.seq (.ops false [oM 32 9, oM 33 2, oP 34 (.iaS 1 (.t 32) (.t 33)), oS (.st 1 (.t 34) (cB true))]) (.seq (.ops true [oP 35 (.ld 6 true (.t 3)), oM 36 9, oP 37 (.fa 1 (.t 3)), oA 38 (.ld 1 false (.t 37)) [2], oM 39 2,
 oA 40 (.iaS 7 (.t 38) (.t 39)) [2, 4, 3], oA 41 (.fa 1 (.t 40)) [3, 4, 2, 5], oA 42 (.ld 1 false (.t 41)) [5, 2, 4, 3, 6], oA 43 (.call 110 [(.t 35), (.t 36), (.t 42)]) [6, 3, 4, 2, 5, 7, 1, 0], oP 44 (.fa 1 (.t 3)), oA 45 (.ld 1 false (.t 44)) [9], oM 46 2, oA 47 (.iaS 7 (.t 45) (.t 46)) [9, 11, 10], oA 48 (.fa 2 (.t 47)) [10, 11, 9, 12], oA 49 (.ld 1 false (.t 48)) [12, 9, 11, 10,
 13], oA 50 (.iaS 1 (.t 43) (.t 49)) [13, 10, 11, 9, 12, 0, 1, 7, 5, 2, 4, 3, 6, 14, 8], oA 51 (.ld 1 false (.t 50)) [8, 14, 6, 3, 4, 2, 5, 7, 1, 0, 12, 9, 11, 10, 13, 15], oA 52 (.bin .lss (.t 51) (cI 0)) [15, 13, 10, 11, 9, 12, 0, 1, 7, 5, 2, 4, 3, 6, 14, 8, 16], oA 6 (.mv (.t 52)) [16, 15, 14, 13, 12, 11, 10, 9, 7, 6, 5, 4, 3, 2, 1, 0, 8, 17], oA 7 (.mv (cI 0)) [17, 16, 15, 14, 13, 12, 11, 10,
 9, 8, 7, 6, 5, 4, 3, 2, 1, 0, 18]]) .ret)))
def c56_2 : C := (.seq (.seq (.ops false [oM 25 1, oM 26 2, oP 27 (.iaS 1 (.t 25) (.t 26)), oP 28 (.ld 1 false (.t 27))]) (.cond (.t 28) (.seq (.ops false [oP 6 (.mv (cB false)), oP 7 (.mv (cI 0))]) .ret) .skip)) c56_1)
def c56_3 : C := (.seq (.seq (.ops false [oM 16 2, oP 17 (.bin .lss (.t 16) (cI 0)), oM 18 17, oG 19 18 false (.mv (.t 2)), oG 20 18 false (.fa 1 (.t 3)), oG 21 18 false (.ld 1 false (.t 20)), oG 22 18 false (.len (.t 21)), oG 23 18 false (.bin .geq (.t 19) (.t 22)), oP 24 (.pick (.t 18) (cB true) (.t 23))]) (.cond (.t 24) (.seq (.ops false [oP 6 (.mv (cB false)), oP 7 (.mv (cI 8))]) .ret)
 .skip)) c56_2)
def c56 : C := (.seq (.ops false [oP 3 (.box 6 (.t 0)), oP 6 (.mv (cB false)), oP 7 (.mv (cI 0))]) (.seq (.seq (.ops false [oP 10 (.ld 6 true (.t 3)), oM 11 1, oB 12 (.call 108 [(.t 10), (.t 11)]), oM 8 12]) (.seq (.ops false [oM 13 8, oP 14 (.bin .neq (.t 13) (cI 0))]) (.cond (.t 14) (.seq (.ops false [oM 15 8, oP 6 (.mv (cB false)), oM 7 15]) .ret)
 .skip))) c56_3))
def r56 : List RV := [(.tmp 6), (.tmp 7)]
theorem c56_ok : ∃ code, Try.f56.body = some code ∧ compC Try.prog Try.f56.ntmps code = some (C.strip c56) := ⟨_, rfl, by kernel_rfl⟩
theorem r56_ok : compRes Try.prog Try.f56.results.toList = some r56 := by kernel_rfl
theorem f56_ok : fnOk Try.prog 56 = true := by kernel_rfl
def c60_1 : C := (.ops false [oP 39 (.bin .add (.t 24) (cI 1)), oM 24 39])
def c60_2 : C := (.seq (.block 1 (.seq (.ops false [oP 26 (.iaS 2 (.t 22) (.t 24)), oP 27 (.ld 2 true (.t 26)), oP 8 (.new [(.v (.int .i64 0)), (.v (.bool false))]), oS (.st 2 (.t 8) (.t 27))]) (.seq (.ops false [oP 28 (.fa 0 (.t 8)), oP 29 (.ld 1 false (.t 28)), oP 30 (.bin .lss (.t 29) (cI 0)), oM 31 30, oG 32 31 false (.fa 0 (.t 8)), oG 33 31 false (.ld 1 false (.t 32)),
 oG 34 31 false (.fa 1 (.t 2)), oG 35 31 false (.ld 1 false (.t 34)), oG 36 31 false (.len (.t 35)), oG 37 31 false (.bin .geq (.t 33) (.t 36)), oP 38 (.pick (.t 31) (cB true) (.t 37))]) (.cond (.t 38) (.seq (.ops false [oP 4 (.mv (cI 0)), oP 5 (.mv (cI 8))]) .ret) .skip)))) c60_1)
def c60_3 : C := (.seq (.ops false [oP 25 (.bin .lss (.t 24) (.t 23))]) (.seq (.cond (.t 25) .skip (.exit 0)) c60_2))
def c60_4 : C := (.seq (.ops false [oM 79 10, oM 80 14, oP 81 (.iaS 1 (.t 79) (.t 80)), oS (.st 1 (.t 81) (cB true))]) (.ops false [oM 82 9, oP 83 (.fa 1 (.t 2)), oP 84 (.ld 1 false (.t 83)), oP 85 (.fa 0 (.t 12)), oP 86 (.ld 1 false (.t 85)), oP 87 (.iaS 7 (.t 84) (.t 86)), oP 88 (.fa 3 (.t 87)), oP 89 (.ld 1 false (.t 88)), oP 90 (.bin .add (.t 82) (.t 89)), oM 9 90]))
def c60_5 : C := (.seq (.seq (.ops false [oM 75 10, oM 76 14, oP 77 (.iaS 1 (.t 75) (.t 76)), oP 78 (.ld 1 false (.t 77))]) (.cond (.t 78) (.seq (.ops false [oP 4 (.mv (cI 0)), oP 5 (.mv (cI 11))]) .ret) .skip)) c60_4)
def c60_6 : C := (.ops false [oP 91 (.bin .add (.t 46) (cI 1)), oM 46 91])
def c60_7 : C := (.seq (.block 3 (.seq (.ops false [oM 48 46, oP 49 (.iaS 2 (.t 44) (.t 46)), oP 50 (.ld 2 true (.t 49)), oP 12 (.new [(.v (.int .i64 0)), (.v (.bool false))]), oM 11 48, oS (.st 2 (.t 12) (.t 50))]) (.seq (.ops false [oP 52 (.ld 6 true (.t 2)), oP 53 (.ld 2 true (.t 12)), oB 54 (.call 111 [(.t 52), (.t 53)]), oM 51 54, oP 55 (.ext (.t 51) 0), oP 56 (.ext (.t 51)
 1), oM 13 55, oM 14 56]) (.seq (.seq (.ops false [oM 57 11, oP 58 (.bin .eql (.t 57) (cI 0))]) (.cond (.t 58) (.ops false [oM 59 10, oM 60 13, oP 61 (.iaS 1 (.t 59) (.t 60)), oS (.st 1 (.t 61) (cB true))]) (.seq (.ops true [oP 63 (.ld 6 true (.t 2)), oM 64 1, oM 65 11, oA 66 (.bin .sub (.t 65) (cI 1)) [2],
 oA 67 (.iaS 2 (.t 64) (.t 66)) [2, 3, 1], oA 68 (.ld 2 true (.t 67)) [1, 3, 2, 4], oE 69 (.call 111 [(.t 63), (.t 68)]) [4, 2, 3, 1, 5, 0], oA 62 (.mv (.t 69)) [0, 5, 1, 3, 2, 4, 6], oA 70 (.ext (.t 62) 0) [6, 4, 2, 3, 1, 5, 0, 7], oA 71 (.ext (.t 62) 1) [6, 4, 2, 3, 1, 5, 0, 7], oA 15 (.mv (.t 70)) [7, 5, 4, 3, 2, 1, 0, 6, 8], oA 16 (.mv (.t 71)) [8, 7, 6, 5, 4, 3, 2, 1, 0, 10, 9]])
 (.seq (.ops false [oM 72 16, oM 73 13, oP 74 (.bin .neq (.t 72) (.t 73))]) (.cond (.t 74) (.seq (.ops false [oP 4 (.mv (cI 0)), oP 5 (.mv (cI 11))]) .ret) .skip))))) c60_5)))) c60_6)
def c60_8 : C := (.seq (.ops false [oP 47 (.bin .lss (.t 46) (.t 45))]) (.seq (.cond (.t 47) .skip (.exit 2)) c60_7))
def c60_9 : C := (.seq (.ops false [oM 92 9, oM 4 92, oP 5 (.mv (cI 0))]) .ret)
def c60_10 : C := (.seq (.ops false [oP 9 (.mv (cI 0))]) (.seq (.ops false [oP 40 (.fa 0 (.t 2)), oP 41 (.ld 1 false (.t 40)), oP 42 (.len (.t 41)), oP 43 (.mks 1 1 [(.v (.bool false))] (.t 42)), oM 10 43]) (.seq (.seq (.ops false [oM 44 1, oP 45 (.len (.t 44)), oP 46 (.mv (cI 0))]) (.block 2 (.loop c60_8))) c60_9)))
def c60_11 : C := (.seq (.seq (.ops false [oM 22 1, oP 23 (.len (.t 22)), oP 24 (.mv (cI 0))]) (.block 0 (.loop c60_3))) c60_10)
def c60 : C := (.seq (.ops false [oP 2 (.box 6 (.t 0)), oP 4 (.mv (cI 0)), oP 5 (.mv (cI 0))]) (.seq (.seq (.ops false [oP 17 (.ld 6 true (.t 2)), oB 18 (.call 97 [(.t 17)]), oM 6 18]) (.seq (.ops false [oM 19 6, oP 20 (.bin .neq (.t 19) (cI 0))]) (.cond (.t 20) (.seq (.ops false [oM 21 6, oP 4 (.mv (cI 0)), oM 5 21]) .ret) .skip))) c60_11))
def r60 : List RV := [(.tmp 4), (.tmp 5)]
theorem c60_ok : ∃ code, Try.f60.body = some code ∧ compC Try.prog Try.f60.ntmps code = some (C.strip c60) := ⟨_, rfl, by kernel_rfl⟩
theorem r60_ok : compRes Try.prog Try.f60.results.toList = some r60 := by kernel_rfl
theorem f60_ok : fnOk Try.prog 60 = true := by kernel_rfl
def c62_1 : C := (.ops false [oP 35 (.bin .add (.t 19) (cI 1)), oM 19 35])
def c62_2 : C := (.seq (.block 1 (.seq (.ops false [oM 21 19, oM 8 21]) (.seq (.ops false [oP 22 (.ld 6 true (.t 2)), oM 23 1, oM 24 8, oP 25 (.call 113 [(.t 22), (.t 23), (.t 24)]), oM 9 25]) (.seq (.ops false [oM 26 9, oP 27 (.iaS 1 (.t 26) (cI 0)), oP 28 (.ld 1 false (.t 27)), oM 29 8, oP 30 (.bin .eql (.t 28) (.t 29))]) (.cond (.t 30)
 (.ops false [oM 31 7, oM 32 9, oP 33 (.bsl 1 1 [.mt] [(0, (.t 32))]), oP 34 (.app 1 24 (.t 31) (.t 33)), oM 7 34]) .skip))))) c62_1)
def c62_3 : C := (.seq (.ops false [oP 20 (.bin .lss (.t 19) (.t 18))]) (.seq (.cond (.t 20) .skip (.exit 0)) c62_2))
def c62_4 : C := (.seq (.ops false [oM 36 7, oM 4 36, oP 5 (.mv (cI 0))]) .ret)
def c62_5 : C := (.seq (.ops false [oP 7 (.mv (.c .mt))]) (.seq (.seq (.ops false [oP 16 (.fa 0 (.t 2)), oP 17 (.ld 1 false (.t 16)), oP 18 (.len (.t 17)), oP 19 (.mv (cI 0))]) (.block 0 (.loop c62_3))) c62_4))
def c62 : C := (.seq (.ops false [oP 2 (.box 6 (.t 0)), oP 4 (.mv (.c .mt)), oP 5 (.mv (cI 0))]) (.seq (.seq (.ops false [oP 10 (.ld 6 true (.t 2)), oM 11 1, oB 12 (.call 108 [(.t 10), (.t 11)]), oM 6 12]) (.seq (.ops false [oM 13 6, oP 14 (.bin .neq (.t 13) (cI 0))]) (.cond (.t 14) (.seq (.ops false [oM 15 6, oP 4 (.mv (.c .mt)), oM 5 15]) .ret) .skip)))
 c62_5))
def r62 : List RV := [(.tmp 4), (.tmp 5)]
theorem c62_ok : ∃ code, Try.f62.body = some code ∧ compC Try.prog Try.f62.ntmps code = some (C.strip c62) := ⟨_, rfl, by kernel_rfl⟩
theorem r62_ok : compRes Try.prog Try.f62.results.toList = some r62 := by kernel_rfl
theorem f62_ok : fnOk Try.prog 62 = true := by kernel_rfl
def c63 : C := (.seq (.ops false [oP 4 (.mv (cB false))]) (.seq (.ops false [oM 5 0, oM 6 1, oB 7 (.call 119 [(.t 5), (.t 6)]), oM 4 7]) .ret))
def r63 : List RV := [(.tmp 4)]
theorem c63_ok : ∃ code, Try.f63.body = some code ∧ compC Try.prog Try.f63.ntmps code = some (C.strip c63) := ⟨_, rfl, by kernel_rfl⟩
theorem r63_ok : compRes Try.prog Try.f63.results.toList = some r63 := by kernel_rfl
theorem f63_ok : fnOk Try.prog 63 = true := by kernel_rfl
def c119_1 : C := (.ops false [oP 26 (.bin .add (.t 13) (cI 1)), oM 13 26])
def c119_2 : C := (.seq (.block 1 (.seq (.ops false [oM 15 13, oM 5 15]) (.seq (.ops true [oM 16 0, oM 17 5, oA 18 (.iaS 1 (.t 16) (.t 17)) [1, 0], oA 19 (.ld 1 false (.t 18)) [0, 1, 2], oM 20 1, oM 21 5, oA 22 (.iaS 1 (.t 20) (.t 21)) [5, 4], oA 23 (.ld 1 false (.t 22)) [4, 5, 6], oE 24 (.call 58 [(.t 19), (.t 23)]) [6, 5, 4, 2, 1, 0, 7, 3],
 oA 25 (.not (.t 24)) [3, 7, 0, 1, 2, 4, 5, 6, 8]]) (.cond (.t 25) (.seq (.ops false [oP 4 (.mv (cB false))]) .ret) .skip)))) c119_1)
def c119_3 : C := (.seq (.ops false [oP 14 (.bin .lss (.t 13) (.t 12))]) (.seq (.cond (.t 14) .skip (.exit 0)) c119_2))
def c119_4 : C := (.seq (.ops false [oP 4 (.mv (cB true))]) .ret)
def c119_5 : C := (.seq (.seq (.ops false [oM 11 0, oP 12 (.len (.t 11)), oP 13 (.mv (cI 0))]) (.block 0 (.loop c119_3))) c119_4)
def c119 : C := (.seq (.ops false [oP 4 (.mv (cB false))]) (.seq (.seq (.ops false [oM 6 0, oP 7 (.len (.t 6)), oM 8 1, oP 9 (.len (.t 8)), oP 10 (.bin .neq (.t 7) (.t 9))]) (.cond (.t 10) (.seq (.ops false [oP 4 (.mv (cB false))]) .ret) .skip)) c119_5))
def r119 : List RV := [(.tmp 4)]
theorem c119_ok : ∃ code, Try.f119.body = some code ∧ compC Try.prog Try.f119.ntmps code = some (C.strip c119) := ⟨_, rfl, by kernel_rfl⟩
theorem r119_ok : compRes Try.prog Try.f119.results.toList = some r119 := by kernel_rfl
theorem f119_ok : fnOk Try.prog 119 = true := by kernel_rfl
end Go.Proofs.Ytadjhfjiimgddaa
