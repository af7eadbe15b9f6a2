/- Blocks of ints, and what a loop over a literal list keeps. -/
import Derived.Test.YtooojlecefgonaaDoorBase
namespace Go.Proofs.YtooojlecefgonaaDoor
open Go.RowKit
/-- Block b holds n ints. -/
def IntsBlk (w : World) (b n : Nat) : Prop := b < w.heap.size ∧ ∀ i, i < n → ∃ x : Int, w.cell? ⟨b, i, none⟩ = some (.int .i64 x)
theorem IntsBlk.only {w w' : World} {b n bs : Nat} (h : IntsBlk w b n) (k : Only bs w w') (hn : b ≠ bs) : IntsBlk w' b n :=
  ⟨Nat.lt_of_lt_of_le h.1 k.size, fun i hi => by obtain ⟨x, hx⟩ := h.2 i hi; exact ⟨x, by rw [ocell1 k h.1 hn]; exact hx⟩⟩
theorem IntsBlk.of_box {w : World} {b n : Nat} {c : Array Value} (h : Box w b c) (hc : ∀ i, i < n → ∃ x : Int, c[i]? = some (.int .i64 x)) : IntsBlk w b n :=
  ⟨h.lt, fun i hi => by obtain ⟨x, hx⟩ := hc i hi; exact ⟨x, by rw [h.cell]; exact hx⟩⟩
theorem ints_of {xs : List Int} {c : Array Value} (e : c = (xs.map (Value.int .i64)).toArray) : ∀ i, i < xs.length → ∃ x : Int, c[i]? = some (.int .i64 x) := fun i hi => by
  subst e
  refine ⟨xs[i], ?_⟩
  rw [List.getElem?_toArray, List.getElem?_map, List.getElem?_eq_getElem hi]
  rfl
theorem ints9 {a b c d e f g h k : Int} : ∀ i, i < 9 → ∃ x : Int, (#[Value.int .i64 a, .int .i64 b, .int .i64 c, .int .i64 d, .int .i64 e, .int .i64 f, .int .i64 g, .int .i64 h, .int .i64 k] : Array Value)[i]? = some (.int .i64 x) := ints_of (xs := [a, b, c, d, e, f, g, h, k]) rfl
theorem ints8 {a b c d e f g h : Int} : ∀ i, i < 8 → ∃ x : Int, (#[Value.int .i64 a, .int .i64 b, .int .i64 c, .int .i64 d, .int .i64 e, .int .i64 f, .int .i64 g, .int .i64 h] : Array Value)[i]? = some (.int .i64 x) := ints_of (xs := [a, b, c, d, e, f, g, h]) rfl
theorem ints6 {a b c d e f : Int} : ∀ i, i < 6 → ∃ x : Int, (#[Value.int .i64 a, .int .i64 b, .int .i64 c, .int .i64 d, .int .i64 e, .int .i64 f] : Array Value)[i]? = some (.int .i64 x) := ints_of (xs := [a, b, c, d, e, f]) rfl
theorem ints5 {a b c d e : Int} : ∀ i, i < 5 → ∃ x : Int, (#[Value.int .i64 a, .int .i64 b, .int .i64 c, .int .i64 d, .int .i64 e] : Array Value)[i]? = some (.int .i64 x) := ints_of (xs := [a, b, c, d, e]) rfl
theorem ints4 {a b c d : Int} : ∀ i, i < 4 → ∃ x : Int, (#[Value.int .i64 a, .int .i64 b, .int .i64 c, .int .i64 d] : Array Value)[i]? = some (.int .i64 x) := ints_of (xs := [a, b, c, d]) rfl
theorem ints3 {a b c : Int} : ∀ i, i < 3 → ∃ x : Int, (#[Value.int .i64 a, .int .i64 b, .int .i64 c] : Array Value)[i]? = some (.int .i64 x) := ints_of (xs := [a, b, c]) rfl
theorem ints2 {a b : Int} : ∀ i, i < 2 → ∃ x : Int, (#[Value.int .i64 a, .int .i64 b] : Array Value)[i]? = some (.int .i64 x) := ints_of (xs := [a, b]) rfl
theorem step3 {bs a b n : Nat} {c : Array Value} {w2 w3 W : World} (h : Only bs w3 W) (q : Only bs w2 w3) (hb : Box w3 a c) (hi : IntsBlk w3 b n) (ha : a ≠ bs) (hb' : b ≠ bs) : Only bs w2 W ∧ Box W a c ∧ IntsBlk W b n :=
  ⟨q.trans h, hb.only h ha, hi.only h hb'⟩
/-- Block b holds n structs of a short name and four ints. -/
def StnBlk (w : World) (b n : Nat) : Prop := b < w.heap.size ∧ ∀ i, i < n → ∃ (s : ByteArray) (nd hd fl su : Int), s.size ≤ 60 ∧ w.cell? ⟨b, i * 5, none⟩ = some (.string s) ∧ w.cell? ⟨b, i * 5 + 1, none⟩ = some (.int .i64 nd) ∧ w.cell? ⟨b, i * 5 + 2, none⟩ = some (.int .i64 hd) ∧ w.cell? ⟨b, i * 5 + 3, none⟩ = some (.int .i64 fl) ∧ w.cell? ⟨b, i * 5 + 4, none⟩ = some (.int .i64 su)
theorem StnBlk.only {w w' : World} {b n bs : Nat} (h : StnBlk w b n) (k : Only bs w w') (hn : b ≠ bs) : StnBlk w' b n :=
  ⟨Nat.lt_of_lt_of_le h.1 k.size, fun i hi => by
    obtain ⟨s, nd, hd, fl, su, h0, h1, h2, h3, h4, h5⟩ := h.2 i hi
    exact ⟨s, nd, hd, fl, su, h0, by rw [ocell1 k h.1 hn]; exact h1, by rw [ocell1 k h.1 hn]; exact h2, by rw [ocell1 k h.1 hn]; exact h3, by rw [ocell1 k h.1 hn]; exact h4, by rw [ocell1 k h.1 hn]; exact h5⟩⟩
theorem stnBlk3 {w : World} {b : Nat} {s s' s'' : ByteArray} {a1 a2 a3 a4 b1 b2 b3 b4 c1 c2 c3 c4 : Int} (h : Box w b #[.string s, .int .i64 a1, .int .i64 a2, .int .i64 a3, .int .i64 a4, .string s', .int .i64 b1, .int .i64 b2, .int .i64 b3, .int .i64 b4, .string s'', .int .i64 c1, .int .i64 c2, .int .i64 c3, .int .i64 c4]) (h1 : s.size ≤ 60) (h2 : s'.size ≤ 60) (h3 : s''.size ≤ 60) : StnBlk w b 3 :=
  ⟨h.lt, fun i hi => by
    have h3' : i = 0 ∨ i = 1 ∨ i = 2 := by omega
    rcases h3' with rfl | rfl | rfl
    · exact ⟨_, _, _, _, _, h1, by rw [h.cell]; rfl, by rw [h.cell]; rfl, by rw [h.cell]; rfl, by rw [h.cell]; rfl, by rw [h.cell]; rfl⟩
    · exact ⟨_, _, _, _, _, h2, by rw [h.cell]; rfl, by rw [h.cell]; rfl, by rw [h.cell]; rfl, by rw [h.cell]; rfl, by rw [h.cell]; rfl⟩
    · exact ⟨_, _, _, _, _, h3, by rw [h.cell]; rfl, by rw [h.cell]; rfl, by rw [h.cell]; rfl, by rw [h.cell]; rfl, by rw [h.cell]; rfl⟩⟩
theorem step3s {bs a b n : Nat} {c : Array Value} {w2 w3 W : World} (h : Only bs w3 W) (q : Only bs w2 w3) (hb : Box w3 a c) (hi : StnBlk w3 b n) (ha : a ≠ bs) (hb' : b ≠ bs) : Only bs w2 W ∧ Box W a c ∧ StnBlk W b n :=
  ⟨q.trans h, hb.only h ha, hi.only h hb'⟩

theorem boxS5 {w : World} {b : Nat} {v0 v1 v2 v3 v4 : Value} (h : Box w b #[v0, v1, v2, v3, v4]) : w.cell? ⟨b, 0, none⟩ = some v0 ∧ w.cell? ⟨b, 1, none⟩ = some v1 ∧ w.cell? ⟨b, 2, none⟩ = some v2 ∧ w.cell? ⟨b, 3, none⟩ = some v3 ∧ w.cell? ⟨b, 4, none⟩ = some v4 :=
  ⟨by rw [h.cell]; rfl, by rw [h.cell]; rfl, by rw [h.cell]; rfl, by rw [h.cell]; rfl, by rw [h.cell]; rfl⟩

theorem boxS2 {w : World} {b : Nat} {v0 v1 : Value} (h : Box w b #[v0, v1]) : w.cell? ⟨b, 0, none⟩ = some v0 ∧ w.cell? ⟨b, 1, none⟩ = some v1 :=
  ⟨by rw [h.cell]; rfl, by rw [h.cell]; rfl⟩

theorem IntsBlk.kept {w w' : World} {b n : Nat} (h : IntsBlk w b n) (k : Kept w w') : IntsBlk w' b n :=
  ⟨Nat.lt_of_lt_of_le h.1 k.size, fun i hi => by obtain ⟨x, hx⟩ := h.2 i hi; exact ⟨x, by rw [kcell1 k h.1]; exact hx⟩⟩
theorem keep2 {a b n : Nat} {c : Array Value} {w2 w3 W : World} (h : Kept w3 W) (q : Kept w2 w3) (hb : Box w3 a c) (hi : IntsBlk w3 b n) : Kept w2 W ∧ Box W a c ∧ IntsBlk W b n :=
  ⟨q.trans h, hb.kept h, hi.kept h⟩
/-- A row of ints, whatever they are. -/
theorem rowTrue {w : World} {b : Nat} {c : Array Value} {k : Nat} {P : Int → Prop} (h : Box w b c) (hk : k = c.size) (hc : ∀ v ∈ c, ∃ n, P n ∧ v = .int .i64 n) : ∀ i, i < k → ∃ v, (∃ n, P n ∧ v = .int .i64 n) ∧ w.cell? ⟨b, 0 + i, none⟩ = some v := fun i hi => by
  subst hk
  exact ⟨c[i], hc _ (Array.getElem_mem hi), by rw [h.cell, Nat.zero_add]; simp [hi]⟩
end Go.Proofs.YtooojlecefgonaaDoor
