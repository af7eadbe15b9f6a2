
/- Loops over ranges: a rule. -/
import Derived.Test.YtkjibmfggeibjaaGF
namespace Go.Proofs.Ytkjibmfggeibjaa
open Go
set_option linter.unusedVariables false
set_option linter.unusedSimpArgs false

def RngI (n : Nat) (st : Nat → St) (P : Nat → Prop) (m : Nat) (s : St) : Prop := ∃ j, j + m = n ∧ P j ∧ s = st j
theorem rng_loop {T : Tbl} {N : Nat → Nm} {J : List Nm} {c : C} {Q : Ex → St → Prop} {s : St} (n : Nat) (st : Nat → St) (P : Nat → Prop) (h0 : Weak J s (st 0)) (hP : P 0)
    (hs : ∀ j, j < n → P j → vc T N J c (loopQ J (RngI n st P) (n - j) Q) (st j)) (he : P n → vc T N J c (loopQ J (RngI n st P) 0 Q) (st n)) : vc T N J (.loop c) Q s := by
  rw [vc_loop]
  refine ⟨RngI n st P, ⟨n, _, h0, 0, by omega, hP, rfl⟩, ?_⟩
  rintro m s' ⟨j, hj, hPj, rfl⟩
  by_cases h : j < n
  · obtain rfl : m = n - j := by omega
    exact hs j h hPj
  · obtain rfl : j = n := by omega
    obtain rfl : m = 0 := by omega
    exact he hPj
theorem rng_next {J : List Nm} {n : Nat} {st : Nat → St} {P : Nat → Prop} {j : Nat} {s : St} (hj : j < n) (w : Weak J s (st (j + 1))) (hp : P (j + 1)) : ∃ k' s', k' < n - j ∧ Weak J s s' ∧ RngI n st P k' s' :=
  ⟨n - (j + 1), _, by omega, w, j + 1, by omega, hp, rfl⟩
theorem weak0 {F : Fr} {H : Hp} {l : List (Nat × D)} (h1 : coverS F H [] l) (h2 : refsF [] l = true) : Weak [] ⟨F, H⟩ ⟨fr l, Hp.none⟩ := weak_eq [] [] l h1 h2 trivial (by simp) rfl
theorem drop_all {α : Type} {p : α → Bool} {l : List α} {j : Nat} {b : Bool} (hj : j < l.length) (he : (l.drop j).all p = b) : (p l[j] = false → b = false) ∧ (p l[j] = true → (l.drop (j + 1)).all p = b) := by
  rw [List.drop_eq_getElem_cons hj, List.all_cons] at he
  exact ⟨fun h => by rw [h] at he; simpa using he.symm, fun h => by rw [h] at he; simpa using he⟩
theorem drop_all_end {α : Type} {p : α → Bool} {l : List α} {b : Bool} (he : (l.drop l.length).all p = b) : b = true := by
  rw [List.drop_of_length_le (Nat.le_refl _)] at he
  exact he.symm
/-- The index of a round, as a number. -/
theorem idx_next {j : Nat} (h : (j : Int) ≤ 1000000000000) : IntKind.i64.wrap ((j : Int) + 1) = ((j + 1 : Nat) : Int) := by rw [wrap_i (by omega)]; rfl
theorem idx_nn (j : Nat) : (0 : Int) ≤ (j : Int) := Int.natCast_nonneg j
end Go.Proofs.Ytkjibmfggeibjaa
