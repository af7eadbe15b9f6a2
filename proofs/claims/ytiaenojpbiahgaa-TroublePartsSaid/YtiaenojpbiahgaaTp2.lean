
/- Troubles in two parts: the plain law. -/
import Derived.Test.YtiaenojpbiahgaaTp1
namespace Go.Proofs.Ytiaenojpbiahgaa
open Go
set_option linter.unusedVariables false
set_option linter.unusedSimpArgs false
set_option maxRecDepth 100000

def midT (c : Int) (x : Tro) : Int := if x.fr + c < x.to then x.fr + c else x.to
def halves (c : Int) (x : Tro) : List Tro := [⟨x.kind, x.index, x.value, x.fr, midT c x⟩, ⟨x.kind, x.index, x.value, midT c x, x.to⟩]
theorem mid_in {c : Int} {x : Tro} (hc : 0 ≤ c) (h : x.fr ≤ x.to) : x.fr ≤ midT c x ∧ midT c x ≤ x.to := by
  unfold midT
  split <;> omega
theorem there_half {c : Int} {x : Tro} (hc : 0 ≤ c) (h : x.fr ≤ x.to) (t : Int) : (if thereB ⟨x.kind, x.index, x.value, x.fr, midT c x⟩ t = true then x.value else 0) + (if thereB ⟨x.kind, x.index, x.value, midT c x, x.to⟩ t = true then x.value else 0) = if thereB x t = true then x.value else 0 := by
  have hm := mid_in hc h
  unfold thereB
  generalize midT c x = m at hm
  simp only [decide_eq_true_eq]
  by_cases h1 : x.fr ≤ t <;> by_cases h2 : t < m <;> by_cases h3 : m ≤ t <;> by_cases h4 : t < x.to <;> simp [h1, h2, h3, h4] <;> omega
theorem there_or {c : Int} {x : Tro} (hc : 0 ≤ c) (h : x.fr ≤ x.to) (t : Int) : (thereB ⟨x.kind, x.index, x.value, x.fr, midT c x⟩ t || thereB ⟨x.kind, x.index, x.value, midT c x, x.to⟩ t) = thereB x t := by
  have hm := mid_in hc h
  unfold thereB
  generalize midT c x = m at hm
  simp only [decide_eq_true_eq]
  by_cases h1 : x.fr ≤ t <;> by_cases h2 : t < m <;> by_cases h3 : m ≤ t <;> by_cases h4 : t < x.to <;> simp [h1, h2, h3, h4] <;> omega
theorem sS_halves {c : Int} (hc : 0 ≤ c) (k i t : Int) : ∀ (l : List Tro), (∀ x ∈ l, x.fr ≤ x.to) → sS k i t (l.flatMap (halves c)) = sS k i t l
  | [], _ => rfl
  | x :: l, h => by
    have ih := sS_halves hc k i t l (fun y hy => h y (List.mem_cons_of_mem _ hy))
    have hx := there_half hc (h x (List.mem_cons_self ..)) t
    rw [List.flatMap_cons, sS_append, ih, sS]
    simp only [halves, sS, isB]
    by_cases h1 : (x.kind == k) = true
    · by_cases h2 : (x.index == i) = true
      · simp only [h1, h2, if_true]; omega
      · simp [h2]
    · simp [h1]
theorem has_halves {c : Int} (hc : 0 ≤ c) (k i t : Int) : ∀ (l : List Tro), (∀ x ∈ l, x.fr ≤ x.to) → trHas (l.flatMap (halves c)) k i t = trHas l k i t
  | [], _ => rfl
  | x :: l, h => by
    have ih := has_halves hc k i t l (fun y hy => h y (List.mem_cons_of_mem _ hy))
    have hx := there_or hc (h x (List.mem_cons_self ..)) t
    unfold trHas at ih ⊢
    rw [List.flatMap_cons, List.any_append, ih, List.any_cons]
    congr 1
    simp only [halves, List.any_cons, List.any_nil, isB]
    by_cases h1 : (x.kind == k) = true
    · by_cases h2 : (x.index == i) = true
      · simp only [h1, h2, if_true, Bool.or_false]; exact hx
      · simp [h2]
    · simp [h1]
theorem halves_len (c : Int) (l : List Tro) : (l.flatMap (halves c)).length = 2 * l.length := by
  induction l with
  | nil => rfl
  | cons x l ih => rw [List.flatMap_cons, List.length_append, ih, List.length_cons]; simp [halves]; omega
theorem halves_mem {c : Int} {l : List Tro} {y : Tro} (h : y ∈ l.flatMap (halves c)) : ∃ x ∈ l, y.kind = x.kind ∧ y.index = x.index ∧ y.value = x.value ∧ (y.fr = x.fr ∧ y.to = midT c x ∨ y.fr = midT c x ∧ y.to = x.to) := by
  obtain ⟨x, hx, hy⟩ := List.mem_flatMap.1 h
  simp [halves] at hy
  rcases hy with rfl | rfl
  · exact ⟨x, hx, rfl, rfl, rfl, .inl ⟨rfl, rfl⟩⟩
  · exact ⟨x, hx, rfl, rfl, rfl, .inr ⟨rfl, rfl⟩⟩
theorem val_ok {p q : Nat} {t : Tro} (h1 : 1 ≤ t.kind ∧ t.kind ≤ 4) (h2 : 0 ≤ t.fr ∧ t.fr ≤ t.to ∧ t.to ≤ 1000) (h3 : 0 ≤ t.index ∧ t.index < p + q) (h4 : -100000 ≤ t.value ∧ t.value ≤ 100000) (k1 : t.kind = 1 → t.index < p ∧ 1 ≤ t.value ∧ t.value ≤ 300) (k2 : t.kind = 2 → t.index < q) (k3 : t.kind = 3 → t.index < q ∧ t.value = 0) (k4 : t.kind = 4 → t.value = 0) : valB p q t = true := by
  have hc : ¬ cntB p q t.kind ≤ t.index := by
    unfold cntB
    split
    · omega
    · split
      · omega
      · split <;> omega
  unfold valB
  rw [if_neg (by omega), if_neg (by omega), if_neg (by omega), if_neg (by omega), if_neg (by omega), if_neg (by omega), if_neg hc]
  split
  · have := k1 (by assumption)
    simp; omega
  · split
    · simp; omega
    · have : t.value = 0 := by
        rcases (show t.kind = 3 ∨ t.kind = 4 by omega) with h | h
        · exact (k3 h).2
        · exact k4 h
      simp [this]
theorem tr_val {p q : Nat} {x : Tro} (h : TrOk p q x) : valB p q x = true := by
  have hf := h.fr
  have ht := h.to
  exact val_ok h.kind ⟨by omega, by omega, by omega⟩ h.index h.value h.k1 h.k2 h.k3 h.k4
theorem chk_ok {n : Net} {l : List Tro} (hl : l.length ≤ 32) (h : ∀ x ∈ l, valB n.segs.length n.ports.length x = true) : chkT n l = checkI n := by
  unfold chkT
  split
  · rename_i h0
    rw [if_neg (by omega), if_neg, h0]
    intro ha
    obtain ⟨x, hx, hb⟩ := List.any_eq_true.1 ha
    unfold valBad at hb
    rw [h x hx] at hb
    cases hb
  · rfl
end Go.Proofs.Ytiaenojpbiahgaa
