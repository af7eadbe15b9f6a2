
/- The package's table of ranges, as the condition of the tied rows gives it. -/
import Derived.Test.YtbclfphnhbmhoaaDoorRows
import Derived.Test.YtbclfphnhbmhoaaDoorCorrect
import Derived.OpenShut
import Derived.LaidLaws
import Derived.ChangeArms
namespace Go.Proofs.YtbclfphnhbmhoaaDoor
open Go.RowKit Go.ChangeShapes Go.WideShapes
set_option linter.unusedVariables false
set_option linter.unusedSimpArgs false

theorem spans_glob : Tryd.prog.globalNamed "batchline/product.spans" = some 0 := by kernel_rfl
theorem spans_type : (Tryd.prog.globals[0]?).map (·.type) = some 92 := by kernel_rfl
theorem spans_cells4 : Tryd.prog.cellsOf 92 = 8 := by kernel_rfl
theorem spans_cells1 : Tryd.prog.cellsOf 91 = 2 := by kernel_rfl
theorem spans_cells0 : Tryd.prog.cellsOf 3 = 1 := by kernel_rfl
/-- A pair of ints reads as its two cells. -/
theorem span_of_trod {W : World} {fuel : Nat} {c d : Value} {x y : Int} {p : List MemPlace} (h : DataW.trod (fun _ => ()) Tryd.prog W 0 (fun _ => true) false fuel 91 [c, d] = some (.agg [.lit (.int .i64 x), .lit (.int .i64 y)], p)) :
    c = .int .i64 x ∧ d = .int .i64 y := by
  obtain ⟨xs, n, _, hx, _, hl, hf⟩ := DataW.trod_struct Tryd.underlying91 h
  obtain ⟨a, b, rfl⟩ : ∃ a b, xs = [a, b] := match xs, hl with | [a, b], _ => ⟨a, b, rfl⟩
  have h0 := hf 0 _ rfl
  have h1 := hf 1 _ rfl
  simp only [spans_cells0, List.drop_zero, List.take_succ_cons, List.take_zero, List.drop_succ_cons, List.getElem?_cons_zero, List.getElem?_cons_succ] at h0 h1
  obtain ⟨m, hm, rfl, _⟩ := DataW.trod_int Tryd.underlying3 h0
  obtain ⟨k, hk, rfl, _⟩ := DataW.trod_int Tryd.underlying3 h1
  injection hm with hm _
  injection hk with hk _
  subst hm hk
  simp at hx
  obtain ⟨⟨rfl, rfl⟩, _⟩ := hx
  exact ⟨rfl, rfl⟩
theorem spans_of_laid {W : World} (h : laidMet Tryd.prog [("batchline/product.spans", Rows.laid_batchline_product_spans)] W) : Spans W := by
  obtain ⟨ps, ⟨g, t, cs, fuel, p, q, hg, ht, hvar, hd, _, hps⟩, _, hcell⟩ := h
  obtain rfl := Option.some.inj (spans_glob.symm.trans hg)
  obtain rfl := Option.some.inj (spans_type.symm.trans ht)
  obtain ⟨xs, m, _, hx, hcl, hl, hf⟩ := DataW.trod_array Tryd.underlying92 hd
  rw [spans_cells4] at hcl
  obtain ⟨l⟩ := cs
  simp only at hcl hf
  obtain ⟨c0, c1, c2, c3, c4, c5, c6, c7, rfl⟩ : ∃ c0 c1 c2 c3 c4 c5 c6 c7, l = [c0, c1, c2, c3, c4, c5, c6, c7] := match l, hcl with | [a, b, c, d, e, f, g, h], _ => ⟨a, b, c, d, e, f, g, h, rfl⟩
  obtain ⟨y0, y1, y2, y3, rfl⟩ : ∃ a b c d, xs = [a, b, c, d] := match xs, hl with | [a, b, c, d], _ => ⟨a, b, c, d, rfl⟩
  have h0 := hf 0 (by omega)
  have h1 := hf 1 (by omega)
  have h2 := hf 2 (by omega)
  have h3 := hf 3 (by omega)
  rw [spans_cells1] at h0 h1 h2 h3
  simp at h0 h1 h2 h3
  obtain ⟨d0, p0⟩ := y0
  obtain ⟨d1, p1⟩ := y1
  obtain ⟨d2, p2⟩ := y2
  obtain ⟨d3, p3⟩ := y3
  simp [Rows.laid_batchline_product_spans] at hx
  obtain ⟨⟨rfl, rfl, rfl, rfl⟩, _⟩ := hx
  obtain ⟨rfl, rfl⟩ := span_of_trod h0
  obtain ⟨rfl, rfl⟩ := span_of_trod h1
  obtain ⟨rfl, rfl⟩ := span_of_trod h2
  obtain ⟨rfl, rfl⟩ := span_of_trod h3
  obtain ⟨⟨c, t, hb⟩, _⟩ := hcell 0 0 (by rw [hps]; simp [MemPlace.row])
  refine ⟨t, ?_⟩
  rw [hb]
  unfold World.var? at hvar
  rw [spans_glob] at hvar
  simp only [Option.bind_some, hb, Option.some.injEq] at hvar
  rw [hvar]
/-- What the tied rows' condition gives a walk. -/
abbrev LaidFacts (w : World) : Prop := Spans w
theorem laidFacts_of {W : World} (h : laidMetH Tryd.prog [("batchline/product.spans", Rows.laid_batchline_product_spans)] W) : LaidFacts W := spans_of_laid h
end Go.Proofs.YtbclfphnhbmhoaaDoor
