
/- How slices of structs lie in memory, in plain Lean: rows of cells, each of which reads as a datum; what keeps them. No program in sight. -/
import Derived.Test.YtbclfphnhbmhoaaDoorBase
import Derived.Laws.AppendOwn
namespace Go.Proofs.YtbclfphnhbmhoaaDoor
open Go.RowKit
set_option linter.unusedVariables false
set_option linter.unusedSimpArgs false

/-- A block that is there, and is not the block x (the reader's). -/
def Live (x : Nat) (w : World) (b : Nat) : Prop := b < w.heap.size ∧ b ≠ x
theorem Live.only {x : Nat} {w w' : World} {b : Nat} (h : Live x w b) (k : Only x w w') : Live x w' b := ⟨Nat.lt_of_lt_of_le h.1 k.size, h.2⟩
theorem Live.kept {x : Nat} {w w' : World} {b : Nat} (h : Live x w b) (k : Kept w w') : Live x w' b := ⟨Nat.lt_of_lt_of_le h.1 k.size, h.2⟩

/-- How a datum lies in cells: the cells, one behind the other. -/
abbrev RowT (α : Type) := Nat → World → List Value → α → Prop
/-- A way to lie that changes of other blocks do not touch. -/
structure Stays {α : Type} (R : RowT α) : Prop where
  it : ∀ (x : Nat) (w w' : World) (r : List Value) (e : α), Only x w w' → R x w r e → R x w' r e

/-- From cell o of block b on lies e. -/
def At {α : Type} (R : RowT α) (x : Nat) (w : World) (b o : Nat) (e : α) : Prop := ∃ r, R x w r e ∧ ∀ j u, r[j]? = some u → w.cell? ⟨b, o + j, none⟩ = some u
theorem At.only {α : Type} {R : RowT α} (S : Stays R) {x : Nat} {w w' : World} {b o : Nat} {e : α} (h : At R x w b o e) (k : Only x w w') (hb : Live x w b) : At R x w' b o e := by
  obtain ⟨r, hr, hc⟩ := h
  exact ⟨r, S.it _ _ _ _ _ k hr, fun j u hj => by rw [ocell1 k hb.1 hb.2]; exact hc j u hj⟩

/-- The slice a, len, cap reads as the list l; an element takes sz cells. -/
def SliceOf {α : Type} (R : RowT α) (sz x : Nat) (w : World) (a : Option Addr) (len cap : Nat) (l : List α) : Prop :=
  len = l.length ∧ len ≤ cap ∧ cap ≤ maxLen ∧ (0 < cap → a ≠ none) ∧ (a = none → cap = 0) ∧ (0 < len → ∃ b o, a = some ⟨b, o, none⟩ ∧ Live x w b ∧ ∀ i (h : i < l.length), At R x w b (o + i * sz) l[i])
theorem SliceOf.only {α : Type} {R : RowT α} (S : Stays R) {sz x : Nat} {w w' : World} {a : Option Addr} {len cap : Nat} {l : List α} (h : SliceOf R sz x w a len cap l) (k : Only x w w') : SliceOf R sz x w' a len cap l := by
  obtain ⟨h1, h2, h3, h4, h4', h5⟩ := h
  refine ⟨h1, h2, h3, h4, h4', fun hp => ?_⟩
  obtain ⟨b, o, e, hb, hc⟩ := h5 hp
  exact ⟨b, o, e, hb.only k, fun i hi => (hc i hi).only S k hb⟩
theorem SliceOf.kept {α : Type} {R : RowT α} (S : Stays R) {sz x : Nat} {w w' : World} {a : Option Addr} {len cap : Nat} {l : List α} (h : SliceOf R sz x w a len cap l) (k : Kept w w') : SliceOf R sz x w' a len cap l := h.only S (.of_kept k)
theorem SliceOf.nil {α : Type} (R : RowT α) (sz x : Nat) (w : World) : SliceOf R sz x w none 0 0 [] := ⟨rfl, Nat.le_refl _, Nat.zero_le _, fun h => absurd h (by omega), fun _ => rfl, fun h => absurd h (by omega)⟩
/-- The element k of a slice, in a later world. -/
theorem SliceOf.at {α : Type} {R : RowT α} (S : Stays R) {sz x : Nat} {w w' : World} {a : Option Addr} {len cap : Nat} {l : List α} (h : SliceOf R sz x w a len cap l) (k : Only x w w') {i : Nat} (hi : i < l.length) :
    ∃ b o, a = some ⟨b, o, none⟩ ∧ Live x w' b ∧ At R x w' b (o + i * sz) l[i] := by
  have hl := h.1
  obtain ⟨b, o, e, hb, hc⟩ := (h.only S k).2.2.2.2.2 (by omega)
  exact ⟨b, o, e, hb, hc i hi⟩
theorem SliceOf.len {α : Type} {R : RowT α} {sz x : Nat} {w : World} {a : Option Addr} {len cap : Nat} {l : List α} (h : SliceOf R sz x w a len cap l) : len = l.length := h.1
/-- A part of a slice, from its beginning. -/
theorem SliceOf.take {α : Type} {R : RowT α} {sz x : Nat} {w : World} {a : Option Addr} {len cap : Nat} {l : List α} (h : SliceOf R sz x w a len cap l) {n : Nat} (hn : n ≤ len) : SliceOf R sz x w a n cap (l.take n) := by
  obtain ⟨h1, h2, h3, h4, h4', h5⟩ := h
  refine ⟨by rw [List.length_take]; omega, by omega, h3, h4, h4', fun hp => ?_⟩
  obtain ⟨b, o, e, hb, hc⟩ := h5 (by omega)
  refine ⟨b, o, e, hb, fun i hi => ?_⟩
  rw [List.getElem_take]
  exact hc i (by rw [List.length_take] at hi; omega)

/-- Rows of sz cells each, one behind the other, each of which reads as its datum. -/
def Rows2 {α : Type} (R : RowT α) (sz x : Nat) (w : World) (xs : List Value) (l : List α) : Prop :=
  ∃ rs : List (List Value), xs = rs.flatten ∧ rs.length = l.length ∧ ∀ i (h : i < l.length), ∃ r, rs[i]? = some r ∧ r.length = sz ∧ R x w r l[i]
theorem Rows2.nil {α : Type} (R : RowT α) (sz x : Nat) (w : World) : Rows2 R sz x w [] [] := ⟨[], rfl, rfl, fun i h => absurd h (Nat.not_lt_zero i)⟩
theorem Rows2.only {α : Type} {R : RowT α} (S : Stays R) {sz x : Nat} {w w' : World} {xs : List Value} {l : List α} (h : Rows2 R sz x w xs l) (k : Only x w w') : Rows2 R sz x w' xs l := by
  obtain ⟨rs, e, hl, hr⟩ := h
  refine ⟨rs, e, hl, fun i hi => ?_⟩
  obtain ⟨r, a, b, c⟩ := hr i hi
  exact ⟨r, a, b, S.it _ _ _ _ _ k c⟩
theorem Rows2.snoc {α : Type} {R : RowT α} {sz x : Nat} {w : World} {xs r : List Value} {l : List α} {e : α} (h : Rows2 R sz x w xs l) (hr : R x w r e) (hz : r.length = sz) : Rows2 R sz x w (xs ++ r) (l ++ [e]) := by
  obtain ⟨rs, ex, hl, hrs⟩ := h
  refine ⟨rs ++ [r], by rw [ex]; simp, by simp [hl], fun i hi => ?_⟩
  rw [List.length_append, List.length_singleton] at hi
  rcases Nat.lt_or_eq_of_le (Nat.lt_succ_iff.1 hi) with h' | rfl
  · obtain ⟨q, a, b, c⟩ := hrs i h'
    refine ⟨q, by rw [List.getElem?_append_left (by omega)]; exact a, b, ?_⟩
    rw [List.getElem_append_left h']; exact c
  · refine ⟨r, by rw [List.getElem?_append_right (by omega), ← hl, Nat.sub_self]; rfl, hz, ?_⟩
    rw [List.getElem_append_right (Nat.le_refl _)]
    simpa using hr
theorem flatten_get {sz : Nat} : ∀ (rs : List (List Value)), (∀ r ∈ rs, r.length = sz) → ∀ (i j : Nat) (r : List Value), rs[i]? = some r → j < sz → rs.flatten[i * sz + j]? = r[j]?
  | [], _, i, j, r, h, _ => by simp at h
  | q :: rs, hq, 0, j, r, h, hj => by
    simp at h; subst h
    rw [List.flatten_cons, Nat.zero_mul, Nat.zero_add, List.getElem?_append_left (by rw [hq q (by simp)]; exact hj)]
  | q :: rs, hq, i + 1, j, r, h, hj => by
    rw [List.flatten_cons, List.getElem?_append_right (by rw [hq q (by simp), Nat.add_mul]; omega), hq q (by simp)]
    rw [show (i + 1) * sz + j - sz = i * sz + j by rw [Nat.add_mul]; omega]
    exact flatten_get rs (fun r hr => hq r (by simp [hr])) i j r (by simpa using h) hj
/-- A row of the call's own reads as a slice. -/
theorem SliceOf.of_owns {α : Type} {R : RowT α} {sz x base n : Nat} {E : TypeId} {w : World} {a : Option Addr} {len cap : Nat} {xs : List Value} {l : List α}
    (h : w.ownsRow base E sz (.slice a len cap) n xs) (hr : Rows2 R sz x w xs l) (hn : n = l.length) (hx : x < base ∨ (∀ k, (Value.slice a len cap).ownBlock = some k → k ≠ x)) :
    SliceOf R sz x w a len cap l := by
  obtain ⟨h1, h2⟩ := h
  rcases h2 with ⟨e, rfl⟩ | ⟨g, c, cur, e, hb, hg, hnc, hcm, hcs, ht⟩
  · injection e with e1 e2 e3
    subst e1 e2 e3
    obtain rfl : l = [] := List.length_eq_zero_iff.1 hn.symm
    exact SliceOf.nil R sz x w
  · injection e with e1 e2 e3
    subst e1 e2 e3
    refine ⟨hn, hnc, hcm, fun _ => by simp, (fun h => by cases h), fun hp => ⟨g, 0, rfl, ⟨(Array.getElem?_eq_some_iff.1 hg).1, ?_⟩, fun i hi => ?_⟩⟩
    · rcases hx with hx | hx
      · omega
      · exact hx g rfl
    · obtain ⟨rs, ex, hrl, hrs⟩ := hr
      obtain ⟨r, hri, hrz, hR⟩ := hrs i hi
      refine ⟨r, hR, fun j u hj => ?_⟩
      have hall : ∀ q ∈ rs, q.length = sz := fun q hq => by
        obtain ⟨k, hk, rfl⟩ := List.getElem_of_mem hq
        obtain ⟨r', h1', h2', _⟩ := hrs k (by omega)
        rw [List.getElem?_eq_getElem hk] at h1'
        injection h1' with h1'
        rw [h1']; exact h2'
      have hjz : j < sz := by
        have := (List.getElem?_eq_some_iff.1 hj).1
        omega
      have hf := flatten_get rs hall i j r hri hjz
      rw [← ex, ← ht, hj, List.getElem?_take] at hf
      split at hf
      · simp only [World.cell?, hg, Nat.zero_add]
        simpa using hf
      · cases hf

/-- Numbers, texts, bools as rows of one cell. -/
def IntR : RowT Int := fun _ _ r n => r = [.int .i64 n]
def StrR : RowT ByteArray := fun _ _ r s => r = [.string s]
def BoolR : RowT Bool := fun _ _ r s => r = [.bool s]
theorem IntR.stays : Stays IntR := ⟨fun _ _ _ _ _ _ h => h⟩
theorem StrR.stays : Stays StrR := ⟨fun _ _ _ _ _ _ h => h⟩
theorem BoolR.stays : Stays BoolR := ⟨fun _ _ _ _ _ _ h => h⟩
theorem IntR.cell {x : Nat} {w : World} {b o : Nat} {n : Int} (h : At IntR x w b o n) : w.cell? ⟨b, o, none⟩ = some (.int .i64 n) := by
  obtain ⟨r, rfl, hc⟩ := h
  exact hc 0 _ rfl
theorem StrR.cell {x : Nat} {w : World} {b o : Nat} {n : ByteArray} (h : At StrR x w b o n) : w.cell? ⟨b, o, none⟩ = some (.string n) := by
  obtain ⟨r, rfl, hc⟩ := h
  exact hc 0 _ rfl
theorem BoolR.cell {x : Nat} {w : World} {b o : Nat} {n : Bool} (h : At BoolR x w b o n) : w.cell? ⟨b, o, none⟩ = some (.bool n) := by
  obtain ⟨r, rfl, hc⟩ := h
  exact hc 0 _ rfl
end Go.Proofs.YtbclfphnhbmhoaaDoor
