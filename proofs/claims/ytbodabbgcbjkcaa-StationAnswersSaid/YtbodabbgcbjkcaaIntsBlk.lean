/- Blocks of ints, and what a loop over a literal list keeps. -/
import Derived.Test.YtbodabbgcbjkcaaBase
namespace Go.Proofs.Ytbodabbgcbjkcaa
open Go.RowKit
/-- Block b holds n ints. -/
def IntsBlk (w : World) (b n : Nat) : Prop := b < w.heap.size ∧ ∀ i, i < n → ∃ x : Int, w.cell? ⟨b, i, none⟩ = some (.int .i64 x)
theorem IntsBlk.only {w w' : World} {b n bs : Nat} (h : IntsBlk w b n) (k : Only bs w w') (hn : b ≠ bs) : IntsBlk w' b n :=
  ⟨Nat.lt_of_lt_of_le h.1 k.size, fun i hi => by obtain ⟨x, hx⟩ := h.2 i hi; exact ⟨x, by rw [ocell1 k h.1 hn]; exact hx⟩⟩
theorem IntsBlk.of_box {w : World} {b n : Nat} {c : Array Value} (h : Box w b c) (hc : ∀ i, i < n → ∃ x : Int, c[i]? = some (.int .i64 x)) : IntsBlk w b n :=
  ⟨h.lt, fun i hi => by obtain ⟨x, hx⟩ := hc i hi; exact ⟨x, by rw [h.cell]; exact hx⟩⟩
theorem ints_of {xs : List Int} {c : Array Value} (e : c = (xs.map (Value.int .i64)).toArray) : ∀ i, i < xs.length → ∃ x : Int, c[i]? = some (.int .i64 x) := fun i hi => by
  subst e
  refine ⟨xs[i], ?_⟩
  rw [List.getElem?_toArray, List.getElem?_map, List.getElem?_eq_getElem hi]
  rfl
theorem ints9 {a b c d e f g h k : Int} : ∀ i, i < 9 → ∃ x : Int, (#[Value.int .i64 a, .int .i64 b, .int .i64 c, .int .i64 d, .int .i64 e, .int .i64 f, .int .i64 g, .int .i64 h, .int .i64 k] : Array Value)[i]? = some (.int .i64 x) := ints_of (xs := [a, b, c, d, e, f, g, h, k]) rfl
theorem ints8 {a b c d e f g h : Int} : ∀ i, i < 8 → ∃ x : Int, (#[Value.int .i64 a, .int .i64 b, .int .i64 c, .int .i64 d, .int .i64 e, .int .i64 f, .int .i64 g, .int .i64 h] : Array Value)[i]? = some (.int .i64 x) := ints_of (xs := [a, b, c, d, e, f, g, h]) rfl
theorem ints6 {a b c d e f : Int} : ∀ i, i < 6 → ∃ x : Int, (#[Value.int .i64 a, .int .i64 b, .int .i64 c, .int .i64 d, .int .i64 e, .int .i64 f] : Array Value)[i]? = some (.int .i64 x) := ints_of (xs := [a, b, c, d, e, f]) rfl
theorem ints5 {a b c d e : Int} : ∀ i, i < 5 → ∃ x : Int, (#[Value.int .i64 a, .int .i64 b, .int .i64 c, .int .i64 d, .int .i64 e] : Array Value)[i]? = some (.int .i64 x) := ints_of (xs := [a, b, c, d, e]) rfl
theorem ints4 {a b c d : Int} : ∀ i, i < 4 → ∃ x : Int, (#[Value.int .i64 a, .int .i64 b, .int .i64 c, .int .i64 d] : Array Value)[i]? = some (.int .i64 x) := ints_of (xs := [a, b, c, d]) rfl
theorem ints3 {a b c : Int} : ∀ i, i < 3 → ∃ x : Int, (#[Value.int .i64 a, .int .i64 b, .int .i64 c] : Array Value)[i]? = some (.int .i64 x) := ints_of (xs := [a, b, c]) rfl
theorem ints2 {a b : Int} : ∀ i, i < 2 → ∃ x : Int, (#[Value.int .i64 a, .int .i64 b] : Array Value)[i]? = some (.int .i64 x) := ints_of (xs := [a, b]) rfl
theorem step3 {bs a b n : Nat} {c : Array Value} {w2 w3 W : World} (h : Only bs w3 W) (q : Only bs w2 w3) (hb : Box w3 a c) (hi : IntsBlk w3 b n) (ha : a ≠ bs) (hb' : b ≠ bs) : Only bs w2 W ∧ Box W a c ∧ IntsBlk W b n :=
  ⟨q.trans h, hb.only h ha, hi.only h hb'⟩
end Go.Proofs.Ytbodabbgcbjkcaa
