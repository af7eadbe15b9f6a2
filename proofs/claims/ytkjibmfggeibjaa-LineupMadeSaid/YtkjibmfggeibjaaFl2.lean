
/- The order of flow. -/
import Derived.Test.YtkjibmfggeibjaaFl1
namespace Go.Proofs.Ytkjibmfggeibjaa
open Go
set_option linter.unusedVariables false
set_option linter.unusedSimpArgs false
set_option maxRecDepth 100000

def frOf (x : Seg × Int) : Int := if x.2 < 0 then x.1.to else x.1.fr
def toOf (x : Seg × Int) : Int := if x.2 < 0 then x.1.fr else x.1.to
theorem blk_eq (th : List Bool) (k : Nat) (x : Seg × Int) : blk th k x = true ↔ x.2 ≠ 0 ∧ toOf x = k ∧ th.getD (frOf x).toNat false = false := by
  unfold blk
  by_cases h : x.2 = 0
  · rw [if_pos (beq_iff_eq.2 h)]
    simp [h]
  · rw [if_neg (fun e => h (beq_iff_eq.1 e))]
    by_cases h2 : toOf x = (k : Int)
    · have h3 : ((if x.2 < 0 then x.1.fr else x.1.to) == (k : Int)) = true := beq_iff_eq.2 h2
      rw [if_pos h3]
      simp [h, h2, frOf]
    · have h3 : ¬ ((if x.2 < 0 then x.1.fr else x.1.to) == (k : Int)) = true := fun e => h2 (beq_iff_eq.1 e)
      rw [if_neg h3]
      simp [h2]
theorem pick_iff (E : List (Seg × Int)) (th : List Bool) (k : Nat) : pickB E th k = true ↔ th.getD k true = false ∧ ∀ x ∈ E, x.2 ≠ 0 → toOf x = k → th.getD (frOf x).toNat false = true := by
  unfold pickB
  split
  · rename_i h; simp at h ⊢; simp [h]
  · rename_i h
    constructor
    · intro ha
      refine ⟨by simpa using h, fun x hx h1 h2 => ?_⟩
      cases h3 : th.getD (frOf x).toNat false with
      | true => rfl
      | false =>
        have := List.any_eq_true.2 ⟨x, hx, (blk_eq th k x).2 ⟨h1, h2, h3⟩⟩
        rw [this] at ha
        cases ha
    · rintro ⟨h1, h2⟩
      have : E.any (blk th k) = false := by
        rw [List.any_eq_false]
        intro x hx hb
        obtain ⟨b1, b2, b3⟩ := (blk_eq th k x).1 hb
        rw [h2 x hx b1 b2] at b3
        cases b3
      rw [this]
      rfl
structure OrdInv (E : List (Seg × Int)) (N : Nat) (th : List Bool) (out : List Nat) : Prop where
  len : th.length = N
  mem : ∀ j, th.getD j false = true ↔ j ∈ out
  nd : out.Nodup
  cnt : cntF th + out.length = N
  good : ∀ q k : Nat, out[q]? = some k → ∀ x ∈ E, x.2 ≠ 0 → toOf x = (k : Int) → ∃ q' k' : Nat, q' < q ∧ out[q']? = some k' ∧ frOf x = (k' : Int)
def EdgeIn (E : List (Seg × Int)) (N : Nat) : Prop := ∀ x ∈ E, (0 ≤ x.1.fr ∧ x.1.fr < N) ∧ 0 ≤ x.1.to ∧ x.1.to < N
theorem fr_in {E : List (Seg × Int)} {N : Nat} (h : EdgeIn E N) {x : Seg × Int} (hx : x ∈ E) : 0 ≤ frOf x ∧ frOf x < N := by
  have := h x hx
  unfold frOf
  split <;> omega
theorem OrdInv.lt {E : List (Seg × Int)} {N : Nat} {th : List Bool} {out : List Nat} (h : OrdInv E N th out) {j : Nat} (hj : j ∈ out) : j < N := by
  have := (h.mem j).2 hj
  rw [List.getD_eq_getElem?_getD] at this
  rcases Nat.lt_or_ge j th.length with h1 | h1
  · rw [← h.len]; exact h1
  · rw [List.getElem?_eq_none h1] at this; cases this
theorem OrdInv.step {E : List (Seg × Int)} {N : Nat} {th : List Bool} {out : List Nat} (h : OrdInv E N th out) (hE : EdgeIn E N) {k : Nat} (hk : pickB E th k = true) : OrdInv E N (th.set k true) (out ++ [k]) := by
  obtain ⟨h1, h2⟩ := (pick_iff E th k).1 hk
  have hs := getD_none h1
  have hkl : k < th.length := by
    rcases Nat.lt_or_ge k th.length with h | h
    · exact h
    · rw [List.getElem?_eq_none h] at hs; cases hs
  have hno : k ∉ out := fun hm => by
    have := (h.mem k).2 hm
    rw [List.getD_eq_getElem?_getD, hs] at this
    cases this
  refine ⟨by rw [List.length_set]; exact h.len, fun j => ?_, ?_, ?_, fun q j hj x hx hr ht => ?_⟩
  · rw [List.getD_eq_getElem?_getD, List.getElem?_set, List.mem_append, List.mem_singleton, ← h.mem j, List.getD_eq_getElem?_getD]
    by_cases e : k = j
    · subst e; simp [hkl]
    · simp [e, Ne.symm e]
  · rw [List.nodup_append]
    exact ⟨h.nd, by simp, fun a ha b hb => by rw [List.mem_singleton.1 hb]; exact fun e => hno (e ▸ ha)⟩
  · have := cntF_set th k hs
    have := h.cnt
    rw [List.length_append, List.length_singleton]
    omega
  · rcases Nat.lt_or_ge q out.length with hq | hq
    · rw [List.getElem?_append_left hq] at hj
      obtain ⟨q', k', a, b, c⟩ := h.good q j hj x hx hr ht
      exact ⟨q', k', a, by rw [List.getElem?_append_left (by omega)]; exact b, c⟩
    · have hj2 : j = k := by
        rw [List.getElem?_append_right hq] at hj
        cases e : q - out.length with
        | zero => rw [e] at hj; cases hj; rfl
        | succ => rw [e] at hj; simp at hj
      subst hj2
      have h3 := h2 x hx hr ht
      have h4 := (h.mem _).1 h3
      obtain ⟨q', hq'⟩ := List.getElem?_of_mem h4
      have hl : q' < out.length := by
        rcases Nat.lt_or_ge q' out.length with h | h
        · exact h
        · rw [List.getElem?_eq_none h] at hq'; cases hq'
      exact ⟨q', _, by omega, by rw [List.getElem?_append_left hl]; exact hq', by have := (fr_in hE hx).1; omega⟩
theorem cntF_zero : ∀ {th : List Bool}, cntF th = 0 → ∀ j, th.getD j true = true
  | [], _, j => by simp
  | b :: th, h, 0 => by cases b <;> simp [cntF] at h ⊢
  | b :: th, h, j + 1 => by
    have := @cntF_zero th (by cases b <;> simp [cntF] at h ⊢; omega) j
    simpa using this
theorem ordL_inv {E : List (Seg × Int)} {N : Nat} (hE : EdgeIn E N) : ∀ (m : Nat) {th : List Bool} {out : List Nat}, cntF th = m → OrdInv E N th out → ∃ th', OrdInv E N th' (ordL E m th out) ∧ ∀ j, pickB E th' j = false
  | 0, th, out, hm, h => ⟨th, h, fun j => by unfold pickB; rw [cntF_zero hm j]; rfl⟩
  | m + 1, th, out, hm, h => by
    rw [ordL]
    cases hf : (List.range th.length).find? (pickB E th) with
    | none =>
      refine ⟨th, h, fun j => ?_⟩
      rcases Nat.lt_or_ge j th.length with h1 | h1
      · have := List.find?_eq_none.1 hf j (List.mem_range.2 h1)
        simpa using this
      · unfold pickB
        rw [List.getD_eq_getElem?_getD, List.getElem?_eq_none h1]
        rfl
    | some k =>
      have hk : pickB E th k = true := List.find?_some hf
      have hs := getD_none ((pick_iff E th k).1 hk).1
      have hc := cntF_set th k hs
      exact ordL_inv hE m (by omega) (h.step hE hk)
def UpOk (x : Seg × Int) : Prop := x.2 ≠ 0 → frOf x < toOf x
def DownOk (x : Seg × Int) : Prop := x.2 ≠ 0 → toOf x < frOf x
theorem init_inv (E : List (Seg × Int)) (N : Nat) : OrdInv E N (List.replicate N false) [] ∧ cntF (List.replicate N false) = N := by
  have hc : cntF (List.replicate N false) = N := by unfold cntF; rw [List.count_replicate_self]
  refine ⟨⟨List.length_replicate, fun j => ?_, List.nodup_nil, by rw [hc]; rfl, fun q k h => by simp at h⟩, hc⟩
  rw [List.getD_eq_getElem?_getD, List.getElem?_replicate]
  split <;> simp
theorem ord_inv {E : List (Seg × Int)} {N : Nat} (hE : EdgeIn E N) : ∃ th', OrdInv E N th' (ordL E N (List.replicate N false) []) ∧ ∀ j, pickB E th' j = false := by
  obtain ⟨h1, h2⟩ := init_inv E N
  exact ordL_inv hE N h2 h1
theorem ord_all {E : List (Seg × Int)} {N : Nat} {th : List Bool} {out : List Nat} (h : OrdInv E N th out) (hp : ∀ j, pickB E th j = false) (hE : EdgeIn E N) (hm : (∀ x ∈ E, UpOk x) ∨ ∀ x ∈ E, DownOk x) : ∀ j, th.getD j true = true := by
  have key : ∀ j, th.getD j true = false → ∃ x ∈ E, x.2 ≠ 0 ∧ toOf x = (j : Int) ∧ th.getD (frOf x).toNat true = false := fun j hj => by
    have h1 := hp j
    cases h2 : E.any (fun x => blk th j x) with
    | false =>
      have : pickB E th j = true := by
        unfold pickB
        rw [hj, if_neg (by simp)]
        rw [show E.any (blk th j) = false from h2]
        rfl
      rw [this] at h1
      cases h1
    | true =>
      obtain ⟨x, hx, hb⟩ := List.any_eq_true.1 h2
      obtain ⟨b1, b2, b3⟩ := (blk_eq th j x).1 hb
      refine ⟨x, hx, b1, b2, ?_⟩
      have := fr_in hE hx
      have hl : (frOf x).toNat < th.length := by rw [h.len]; omega
      rw [List.getD_eq_getElem?_getD, List.getElem?_eq_getElem hl] at b3 ⊢
      exact b3
  rcases hm with hm | hm
  · intro j
    induction j using Nat.strongRecOn with
    | ind j ih =>
      cases e : th.getD j true with
      | true => rfl
      | false =>
        obtain ⟨x, hx, h1, h2, h3⟩ := key j e
        have := fr_in hE hx
        have hu := hm x hx h1
        rw [ih _ (by omega)] at h3
        cases h3
  · have : ∀ d j, N - j = d → th.getD j true = true := by
      intro d
      induction d using Nat.strongRecOn with
      | ind d ih =>
        intro j hd
        cases e : th.getD j true with
        | true => rfl
        | false =>
          obtain ⟨x, hx, h1, h2, h3⟩ := key j e
          have := fr_in hE hx
          have hu := hm x hx h1
          rw [ih (N - (frOf x).toNat) (by omega) _ rfl] at h3
          cases h3
    intro j
    exact this _ j rfl
theorem cntF_all : ∀ {th : List Bool}, (∀ j, th.getD j true = true) → cntF th = 0
  | [], _ => rfl
  | b :: th, h => by
    have h0 : b = true := by simpa using h 0
    subst h0
    have := @cntF_all th fun j => by simpa using h (j + 1)
    simp [cntF] at this ⊢
    exact this
theorem ord_full {E : List (Seg × Int)} {N : Nat} (hE : EdgeIn E N) (hm : (∀ x ∈ E, UpOk x) ∨ ∀ x ∈ E, DownOk x) : (ordL E N (List.replicate N false) []).length = N := by
  obtain ⟨th, h, hp⟩ := ord_inv hE
  have := h.cnt
  rw [cntF_all (ord_all h hp hE hm)] at this
  omega
/-- Where nothing flows, the order is that of the numbers. -/
theorem ord_rest {E : List (Seg × Int)} (h0 : ∀ x ∈ E, x.2 = 0) : ∀ (m : Nat) (c : Nat), ordL E m (List.replicate c true ++ List.replicate m false) (List.range c) = List.range (c + m)
  | 0, c => by rw [ordL]; rfl
  | m + 1, c => by
    have hp : ∀ th : List Bool, ∀ k, pickB E th k = !(th.getD k true) := fun th k => by
      unfold pickB
      split
      · rename_i h; rw [h]; rfl
      · rename_i h
        have : E.any (blk th k) = false := by
          rw [List.any_eq_false]
          intro x hx hb
          exact ((blk_eq th k x).1 hb).1 (h0 x hx)
        have h : th.getD k true = false := by simpa using h
        rw [this, h]
    have hf : (List.range (List.replicate c true ++ List.replicate (m + 1) false).length).find? (pickB E (List.replicate c true ++ List.replicate (m + 1) false)) = some c := by
      rw [List.find?_range_eq_some]
      refine ⟨?_, by simp, fun j hj => ?_⟩
      · rw [hp, List.getD_eq_getElem?_getD, List.getElem?_append_right (by simp)]
        simp
      · rw [hp, List.getD_eq_getElem?_getD, List.getElem?_append_left (by simpa using hj)]
        simp [hj]
    rw [ordL, hf]
    have e1 : (List.replicate c true ++ List.replicate (m + 1) false).set c true = List.replicate (c + 1) true ++ List.replicate m false := by
      rw [List.set_append_right _ _ (by simp), List.length_replicate, Nat.sub_self, List.replicate_succ, List.set_cons_zero, List.replicate_succ', List.append_assoc]
      rfl
    dsimp only
    rw [e1, ← List.range_succ, ord_rest h0 m (c + 1)]
    congr 1
    omega
end Go.Proofs.Ytkjibmfggeibjaa
