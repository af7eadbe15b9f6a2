/- A struct of one-cell fields that came in by value: its cells, and what each reads as. -/
import Derived.Test.YtooojlecefgonaaDoorBase
import Derived.Lib.SmallJoins
import Derived.Deep.Fields
namespace Go.Proofs.YtooojlecefgonaaDoor
open Go.RowKit Go.ChangeShapes Go.WideShapes Go.Joins Go.Deep
theorem open_fields {H : Type} {enc : TypeId × Value → H} {P : Program} {w : World} {base : Nat} {spare : Nat → Bool} {held : Bool} {r : Reach} {b0 : Nat} {t : TypeId} {fs : Array Field} {v : Value} {d : DataW H} {p : List MemPlace}
    (hs : P.underlying t = some (.struct fs)) (hone : oneCellFields P fs = true) (hC : P.cellsOf t = fs.size) (hv : Value.okWide P w r b0 t v) (h : DataW.Trod enc P w base spare held t v d p) :
    ∃ vs : List Value, v = .agg vs.toArray ∧ vs.length = fs.size ∧ ∀ (j : Nat) (f : Field) (u : Value), fs[j]? = some f → vs[j]? = some u → ∃ n y, DataW.trod enc P w base spare held n f.type [u] = some y := by
  obtain ⟨cs, rfl, hsz⟩ := okWide_struct hs hv
  obtain ⟨vs⟩ := cs
  obtain ⟨fuel, hf⟩ := h
  have hl : vs.length = fs.size := by simpa using hsz.trans hC
  obtain ⟨xs, n, _, _, _, hx, hg⟩ := DataW.trod_struct hs hf
  refine ⟨vs, rfl, hl, fun j f u hj hu => ?_⟩
  obtain ⟨o, k⟩ := hone_of hone j f hj
  have hjl : j < fs.size := (Array.getElem?_eq_some_iff.1 hj).1
  have h1 := hg j f hj
  rw [o, k] at h1
  have hcs : ((Value.agg vs.toArray).cells.toList.drop j).take 1 = [u] := by
    have : (Value.agg vs.toArray).cells.toList = vs := by simp [Value.cells]
    rw [this]
    obtain ⟨hjv, rfl⟩ := List.getElem?_eq_some_iff.1 hu
    rw [List.drop_eq_getElem_cons hjv]
    rfl
  refine ⟨n, xs[j]'(by omega), ?_⟩
  rw [← hcs, ← List.getElem?_eq_getElem]
  exact h1
theorem list2 {α : Type} {l : List α} (h : l.length = 2) : ∃ a b, l = [a, b] := match l, h with | [a, b], _ => ⟨a, b, rfl⟩
theorem list3 {α : Type} {l : List α} (h : l.length = 3) : ∃ a b c, l = [a, b, c] := match l, h with | [a, b, c], _ => ⟨a, b, c, rfl⟩
theorem list4 {α : Type} {l : List α} (h : l.length = 4) : ∃ a b c d, l = [a, b, c, d] := match l, h with | [a, b, c, d], _ => ⟨a, b, c, d, rfl⟩
theorem list5 {α : Type} {l : List α} (h : l.length = 5) : ∃ a b c d e, l = [a, b, c, d, e] := match l, h with | [a, b, c, d, e], _ => ⟨a, b, c, d, e, rfl⟩
theorem list6 {α : Type} {l : List α} (h : l.length = 6) : ∃ a b c d e f, l = [a, b, c, d, e, f] := match l, h with | [a, b, c, d, e, f], _ => ⟨a, b, c, d, e, f, rfl⟩
end Go.Proofs.YtooojlecefgonaaDoor
