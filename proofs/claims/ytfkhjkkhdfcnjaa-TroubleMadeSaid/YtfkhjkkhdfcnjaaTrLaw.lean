
/- Troubles: the plain laws. -/
import Derived.Test.YtfkhjkkhdfcnjaaTr4
namespace Go.Proofs.Ytfkhjkkhdfcnjaa
open Go
set_option linter.unusedVariables false
set_option linter.unusedSimpArgs false
set_option maxRecDepth 100000

/-- The sum without the bounds of int. -/
def sS (k i t : Int) : List Tro → Int
  | [] => 0
  | x :: l => (if isB k i t x = true then x.value else 0) + sS k i t l
theorem sS_append (k i t : Int) : ∀ a b : List Tro, sS k i t (a ++ b) = sS k i t a + sS k i t b
  | [], b => by simp [sS]
  | x :: a, b => by rw [List.cons_append, sS, sS, sS_append k i t a b]; omega
def Small (l : List Tro) : Prop := l.length ≤ 1000 ∧ ∀ x ∈ l, -2199023255552 ≤ x.value ∧ x.value ≤ 2199023255552
theorem fold_S (k i t : Int) (l : List Tro) : ∀ a : Int, (∀ x ∈ l, -2199023255552 ≤ x.value ∧ x.value ≤ 2199023255552) → -9000000000000000000 + l.length * 2199023255552 ≤ a → a + l.length * 2199023255552 ≤ 9000000000000000000 → l.foldl (sumS k i t) a = a + sS k i t l := by
  induction l with
  | nil => intro a _ _ _; simp [sS]
  | cons x l ih =>
    intro a h h1 h2
    have hx := h x (List.mem_cons_self ..)
    rw [List.length_cons] at h1 h2
    rw [List.foldl_cons, sS, sumS]
    split
    · rename_i hb
      rw [wrap_i (by omega), ih _ (fun y hy => h y (List.mem_cons_of_mem _ hy)) (by omega) (by omega)]
      omega
    · rename_i hb
      rw [ih _ (fun y hy => h y (List.mem_cons_of_mem _ hy)) (by omega) (by omega)]
      omega
theorem trSum_S {l : List Tro} (h : Small l) (k i t : Int) : trSum l k i t = sS k i t l := by
  unfold trSum
  have := h.1
  rw [fold_S k i t l 0 h.2 (by omega) (by omega)]
  omega
theorem trSum_swap {a b : List Tro} (h : Small (a ++ b)) (k i t : Int) : trSum (b ++ a) k i t = trSum (a ++ b) k i t := by
  have h' : Small (b ++ a) := ⟨by have := h.1; simp at this ⊢; omega, fun x hx => h.2 x (by simp at hx ⊢; exact hx.symm)⟩
  rw [trSum_S h, trSum_S h', sS_append, sS_append]
  omega
theorem trHas_swap (a b : List Tro) (k i t : Int) : trHas (b ++ a) k i t = trHas (a ++ b) k i t := by
  unfold trHas
  rw [List.any_append, List.any_append, Bool.or_comm]
/-- Times at which something changes. -/
def IsBd (l : List Tro) (n : Int) : Prop := ∃ x ∈ l, x.fr < x.to ∧ (n = x.fr ∨ n = x.to)
theorem isB_same {l : List Tro} {t : Int} (h : ¬ IsBd l t) (k i : Int) {x : Tro} (hx : x ∈ l) : isB k i (t - 1) x = isB k i t x := by
  have e : thereB x (t - 1) = thereB x t := by
    have h1 : ¬ (x.fr < x.to ∧ (t = x.fr ∨ t = x.to)) := fun k => h ⟨x, hx, k⟩
    unfold thereB
    rw [Bool.eq_iff_iff]
    simp only [decide_eq_true_eq]
    split <;> split <;> simp <;> omega
  unfold isB
  rw [e]
theorem sum_same (k i t t' : Int) : ∀ (l : List Tro) (a : Int), (∀ x ∈ l, isB k i t' x = isB k i t x) → l.foldl (sumS k i t') a = l.foldl (sumS k i t) a
  | [], a, _ => rfl
  | x :: l, a, h => by
    rw [List.foldl_cons, List.foldl_cons, sum_same k i t t' l _ (fun y hy => h y (List.mem_cons_of_mem _ hy))]
    congr 1
    unfold sumS
    rw [h x (List.mem_cons_self ..)]
theorem has_same (k i t t' : Int) : ∀ (l : List Tro), (∀ x ∈ l, isB k i t' x = isB k i t x) → l.any (isB k i t') = l.any (isB k i t)
  | [], _ => rfl
  | x :: l, h => by
    rw [List.any_cons, List.any_cons, has_same k i t t' l (fun y hy => h y (List.mem_cons_of_mem _ hy)), h x (List.mem_cons_self ..)]
/-- What Next says. -/
structure NextOk (l : List Tro) (t : Int) (b : Int × Bool) : Prop where
  yes : b.2 = true → IsBd l b.1 ∧ t < b.1 ∧ ∀ n, IsBd l n → t < n → b.1 ≤ n
  no : b.2 = false → ∀ n, IsBd l n → n ≤ t
/-- The least of some times behind t, as far as there is one. -/
structure Least (P : Int → Prop) (t : Int) (b : Int × Bool) : Prop where
  yes : b.2 = true → P b.1 ∧ t < b.1 ∧ ∀ n, P n → t < n → b.1 ≤ n
  no : b.2 = false → ∀ n, P n → n ≤ t
theorem Least.put {P : Int → Prop} {t : Int} {b : Int × Bool} (h : Least P t b) (m : Int) : Least (fun n => P n ∨ n = m) t (nxP t b m) := by
  obtain ⟨n, o⟩ := b
  unfold nxP
  split
  · rename_i h1
    cases o with
    | false =>
      simp only [Bool.false_eq_true, if_false]
      refine ⟨fun _ => ⟨.inr rfl, h1, fun k hk ht => ?_⟩, fun e => (by cases e)⟩
      rcases hk with hk | rfl
      · have := h.no rfl k hk; omega
      · exact Int.le_refl _
    | true =>
      obtain ⟨a1, a2, a3⟩ := h.yes rfl
      simp only [if_true]
      split
      · rename_i h2
        refine ⟨fun _ => ⟨.inr rfl, h1, fun k hk ht => ?_⟩, fun e => (by cases e)⟩
        rcases hk with hk | rfl
        · have := a3 k hk ht; dsimp only at *; omega
        · exact Int.le_refl _
      · rename_i h2
        refine ⟨fun _ => ⟨.inl a1, a2, fun k hk ht => ?_⟩, fun e => (by cases e)⟩
        rcases hk with hk | rfl
        · exact a3 k hk ht
        · dsimp only at *; omega
  · rename_i h1
    refine ⟨fun e => ?_, fun e n hn => ?_⟩
    · obtain ⟨a1, a2, a3⟩ := h.yes e
      refine ⟨.inl a1, a2, fun k hk ht => ?_⟩
      rcases hk with hk | rfl
      · exact a3 k hk ht
      · exact absurd ht h1
    · rcases hn with hn | rfl
      · exact h.no e n hn
      · omega
theorem Least.imp {P Q : Int → Prop} {t : Int} {b : Int × Bool} (h : Least P t b) (e : ∀ n, P n ↔ Q n) : Least Q t b :=
  ⟨fun k => let ⟨a1, a2, a3⟩ := h.yes k; ⟨(e _).1 a1, a2, fun n hn => a3 n ((e n).2 hn)⟩, fun k n hn => h.no k n ((e n).2 hn)⟩
theorem next_fold (t : Int) : ∀ (l p : List Tro) (b : Int × Bool), Least (IsBd p) t b → Least (IsBd (p ++ l)) t (l.foldl (nxS t) b)
  | [], p, b, h => by rw [List.append_nil]; exact h
  | x :: l, p, b, h => by
    rw [List.foldl_cons, show p ++ x :: l = (p ++ [x]) ++ l by simp]
    refine next_fold t l (p ++ [x]) _ ?_
    unfold nxS
    split
    · rename_i hx
      refine h.imp fun n => ⟨fun ⟨y, hy, hk⟩ => ⟨y, List.mem_append_left _ hy, hk⟩, fun ⟨y, hy, hk, hn⟩ => ?_⟩
      rcases List.mem_append.1 hy with hy | hy
      · exact ⟨y, hy, hk, hn⟩
      · rw [List.mem_singleton.1 hy] at hk; omega
    · rename_i hx
      refine ((h.put x.fr).put x.to).imp fun n => ⟨fun hk => ?_, fun ⟨y, hy, hk, hn⟩ => ?_⟩
      · rcases hk with (⟨y, hy, hk⟩ | rfl) | rfl
        · exact ⟨y, List.mem_append_left _ hy, hk⟩
        · exact ⟨x, by simp, by omega, .inl rfl⟩
        · exact ⟨x, by simp, by omega, .inr rfl⟩
      · rcases List.mem_append.1 hy with hy | hy
        · exact .inl (.inl ⟨y, hy, hk, hn⟩)
        · rw [List.mem_singleton.1 hy] at hn
          rcases hn with rfl | rfl
          · exact .inl (.inr rfl)
          · exact .inr rfl
theorem next_ok (l : List Tro) (t : Int) : Least (IsBd l) t (trNext l t) := by
  have h : Least (IsBd []) t (0, false) := ⟨fun e => (by cases e), fun _ n ⟨x, hx, _⟩ => by cases hx⟩
  have := next_fold t l [] _ h
  rwa [List.nil_append] at this
/-- From one tick to the next, where nothing changes. -/
theorem Least.step {P : Int → Prop} {t b : Int} {o : Bool} (h : Least P (t - 1) (b, o)) (hn : ¬ (o = true ∧ t = b)) : ¬ P t ∧ Least P t (b, o) := by
  cases o with
  | true =>
    obtain ⟨a1, a2, a3⟩ := h.yes rfl
    have hne : t ≠ b := fun e => hn ⟨rfl, e⟩
    dsimp only at a1 a2 a3
    refine ⟨fun hp => ?_, ⟨fun _ => ⟨a1, by dsimp only; omega, fun n hp ht => a3 n hp (by omega)⟩, fun e => (by cases e)⟩⟩
    have := a3 t hp (by omega)
    omega
  | false => exact ⟨fun hp => by have := h.no rfl t hp; omega, ⟨fun e => (by cases e), fun _ n hp => by have := h.no rfl n hp; omega⟩⟩
/-- Lists that are turned. -/
theorem turned {x y : List Tro} (t : Nat) (h0 : 0 < x.length) (hl : y.length = x.length) (h : ∀ i, i < x.length → y[i]? = x[(i + t) % x.length]?) : y = x.drop (t % x.length) ++ x.take (t % x.length) := by
  have hr := Nat.mod_lt t h0
  refine List.ext_getElem? fun i => ?_
  by_cases hi : i < x.length
  · rw [h i hi]
    have e : (i + t) % x.length = (i + t % x.length) % x.length := by rw [Nat.add_mod_mod]
    rw [e]
    by_cases h1 : i < x.length - t % x.length
    · rw [List.getElem?_append_left (by simp; omega), List.getElem?_drop, Nat.mod_eq_of_lt (by omega), Nat.add_comm]
    · rw [List.getElem?_append_right (by simp; omega), List.getElem?_take_of_lt (by simp; omega)]
      congr 1
      rw [Nat.mod_eq_sub_mod (by omega), Nat.mod_eq_of_lt (by omega)]
      simp
      omega
  · rw [List.getElem?_eq_none (by omega), List.getElem?_eq_none (by simp; omega)]
end Go.Proofs.Ytfkhjkkhdfcnjaa
