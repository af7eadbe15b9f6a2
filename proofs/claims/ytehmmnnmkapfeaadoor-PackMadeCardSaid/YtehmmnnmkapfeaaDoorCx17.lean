/- PackMade: Laid CtH CodePC CodeSE PkB CodeWR Wr. -/
import Derived.Test.YtehmmnnmkapfeaaDoorRows
import Derived.Test.YtehmmnnmkapfeaaDoorCx16
import Derived.OpenShut
import Derived.LaidLaws
import Derived.ChangeArms
import Derived.Test.YtehmmnnmkapfeaaDoorCx4
import Derived.Test.YtehmmnnmkapfeaaDoorCx3
import Derived.Test.YtehmmnnmkapfeaaDoorProg
import Derived.Test.YtehmmnnmkapfeaaDoorCx13
import Derived.Test.YtehmmnnmkapfeaaDoorCx8
set_option linter.unusedSimpArgs false
set_option linter.unusedVariables false
set_option maxRecDepth 100000

/- The package's table of ranges, as the condition of the tied rows gives it. -/
namespace Go.Proofs.YtehmmnnmkapfeaaDoor
open Go.RowKit Go.ChangeShapes Go.WideShapes
theorem spans_glob : Tryd.prog.globalNamed "batchline/product.spans" = some 0 := by kernel_rfl
theorem spans_type : (Tryd.prog.globals[0]?).map (·.type) = some 167 := by kernel_rfl
theorem spans_cells4 : Tryd.prog.cellsOf 167 = 8 := by kernel_rfl
theorem spans_cells1 : Tryd.prog.cellsOf 166 = 2 := by kernel_rfl
theorem spans_cells0 : Tryd.prog.cellsOf 3 = 1 := by kernel_rfl
theorem span_of_trod {W : World} {fuel : Nat} {c d : Value} {x y : Int} {p : List MemPlace} (h : DataW.trod (fun _ => ()) Tryd.prog W 0 (fun _ => true) false fuel 166 [c, d] = some (.agg [.lit (.int .i64 x), .lit (.int .i64 y)], p)) :
    c = .int .i64 x ∧ d = .int .i64 y := by
  obtain ⟨xs, n, _, hx, _, hl, hf⟩ := DataW.trod_struct Tryd.underlying166 h
  obtain ⟨a, b, rfl⟩ : ∃ a b, xs = [a, b] := match xs, hl with | [a, b], _ => ⟨a, b, rfl⟩
  have h0 := hf 0 _ rfl
  have h1 := hf 1 _ rfl
  simp only [spans_cells0, List.drop_zero, List.take_succ_cons, List.take_zero, List.drop_succ_cons, List.getElem?_cons_zero, List.getElem?_cons_succ] at h0 h1
  obtain ⟨m, hm, rfl, _⟩ := DataW.trod_int Tryd.underlying3 h0
  obtain ⟨k, hk, rfl, _⟩ := DataW.trod_int Tryd.underlying3 h1
  injection hm with hm _
  injection hk with hk _
  subst hm hk
  simp at hx
  obtain ⟨⟨rfl, rfl⟩, _⟩ := hx
  exact ⟨rfl, rfl⟩
theorem spans_of_laid {W : World} (h : laidMet Tryd.prog [("batchline/product.spans", Rows.laid_batchline_product_spans)] W) : Spans W := by
  obtain ⟨ps, ⟨g, t, cs, fuel, p, q, hg, ht, hvar, hd, _, hps⟩, _, hcell⟩ := h
  obtain rfl := Option.some.inj (spans_glob.symm.trans hg)
  obtain rfl := Option.some.inj (spans_type.symm.trans ht)
  obtain ⟨xs, m, _, hx, hcl, hl, hf⟩ := DataW.trod_array Tryd.underlying167 hd
  rw [spans_cells4] at hcl
  obtain ⟨l⟩ := cs
  simp only at hcl hf
  obtain ⟨c0, c1, c2, c3, c4, c5, c6, c7, rfl⟩ : ∃ c0 c1 c2 c3 c4 c5 c6 c7, l = [c0, c1, c2, c3, c4, c5, c6, c7] := match l, hcl with | [a, b, c, d, e, f, g, h], _ => ⟨a, b, c, d, e, f, g, h, rfl⟩
  obtain ⟨y0, y1, y2, y3, rfl⟩ : ∃ a b c d, xs = [a, b, c, d] := match xs, hl with | [a, b, c, d], _ => ⟨a, b, c, d, rfl⟩
  have h0 := hf 0 (by omega)
  have h1 := hf 1 (by omega)
  have h2 := hf 2 (by omega)
  have h3 := hf 3 (by omega)
  rw [spans_cells1] at h0 h1 h2 h3
  simp at h0 h1 h2 h3
  obtain ⟨d0, p0⟩ := y0
  obtain ⟨d1, p1⟩ := y1
  obtain ⟨d2, p2⟩ := y2
  obtain ⟨d3, p3⟩ := y3
  simp [Rows.laid_batchline_product_spans] at hx
  obtain ⟨⟨rfl, rfl, rfl, rfl⟩, _⟩ := hx
  obtain ⟨rfl, rfl⟩ := span_of_trod h0
  obtain ⟨rfl, rfl⟩ := span_of_trod h1
  obtain ⟨rfl, rfl⟩ := span_of_trod h2
  obtain ⟨rfl, rfl⟩ := span_of_trod h3
  obtain ⟨⟨c, t, hb⟩, _⟩ := hcell 0 0 (by rw [hps]; simp [MemPlace.row])
  refine ⟨t, ?_⟩
  rw [hb]
  unfold World.var? at hvar
  rw [spans_glob] at hvar
  simp only [Option.bind_some, hb, Option.some.injEq] at hvar
  rw [hvar]
abbrev LaidFacts (w : World) : Prop := Spans w
theorem laidFacts_of {W : World} (h : laidMetH Tryd.prog [("batchline/product.spans", Rows.laid_batchline_product_spans)] W) : LaidFacts W := spans_of_laid h
theorem glOk_of {w : World} (h : LaidFacts w) : GlOk (AllIm w) w.heap := by
  obtain ⟨t, hb⟩ := h
  intro g f hg
  unfold GL glAt at hg
  split at hg
  · rename_i e
    cases hg
    subst e
    refine ⟨lt_of_some hb, fun j => spansC[j]?.getD undef, fun j hj => ?_, fun j d hd => ?_⟩
    · unfold hc
      rw [hb]
      dsimp only
      simp only [List.length_cons, List.length_nil] at hj
      match j, hj with
      | 0, _ => exact ⟨rfl, rfl⟩
      | 1, _ => exact ⟨rfl, rfl⟩
      | 2, _ => exact ⟨rfl, rfl⟩
      | 3, _ => exact ⟨rfl, rfl⟩
      | 4, _ => exact ⟨rfl, rfl⟩
      | 5, _ => exact ⟨rfl, rfl⟩
      | 6, _ => exact ⟨rfl, rfl⟩
      | 7, _ => exact ⟨rfl, rfl⟩
    · match j, hd with
      | 0, hd => cases hd; exact .v _
      | 1, hd => cases hd; exact .v _
      | 2, hd => cases hd; exact .v _
      | 3, hd => cases hd; exact .v _
      | 4, hd => cases hd; exact .v _
      | 5, hd => cases hd; exact .v _
      | 6, hd => cases hd; exact .v _
      | 7, hd => cases hd; exact .v _
      | j + 8, hd => simp at hd
  · unfold glAt at hg
    cases hg
def c5_1 : C := (.seq (.ops false [oP 54 (.mv (.t 8)), oP 55 (.mv (.t 9)), oP 56 (.mv (.t 10)), oP 57 (.bld [(.v (.int .i64 0)), (.v (.int .i64 0))] [(0, (1, (cI 150)))]), oB 58 (.call 34 [(.t 54), (.t 55), (.t 56), (.t 57)]), oP 53 (.mv (.t 58)), oP 59 (.ext (.t 53) 0), oP 60 (.ext (.t 53) 1), oP 14 (.mv (.t 59)), oP 15 (.mv (.t 60))]) (.seq (.ops false [oP 62 (.mv (.t 8)), oP 63 (.mv (.t 9)),
  oP 64 (.mv (.t 10)), oP 65 (.mv (.t 11)), oP 66 (.mv (.t 12)), oP 67 (.bld [(.v (.int .i64 0)), (.v (.int .i64 0))] [(0, (1, (.t 65))), (1, (1, (.t 66)))]), oB 68 (.call 34 [(.t 62), (.t 63), (.t 64), (.t 67)]), oP 61 (.mv (.t 68)), oP 69 (.ext (.t 61) 0), oP 70 (.ext (.t 61) 1), oP 16 (.mv (.t 69)), oP 17 (.mv (.t 70))]) (.seq (.ops false [oP 72 (.mv (.t 8)), oP 73 (.mv (.t 9)),
  oP 74 (.mv (.t 10)), oP 75 (.mv (.t 11)), oP 76 (.mv (.t 13)), oP 77 (.bld [(.v (.int .i64 0)), (.v (.int .i64 0))] [(0, (1, (.t 75))), (1, (1, (.t 76)))]), oB 78 (.call 34 [(.t 72), (.t 73), (.t 74), (.t 77)]), oP 71 (.mv (.t 78)), oP 79 (.ext (.t 71) 0), oP 80 (.ext (.t 71) 1), oP 18 (.mv (.t 79)), oP 19 (.mv (.t 80))]) (.seq (.ops false [oP 82 (.mv (.t 8)), oP 83 (.mv (.t 9)),
  oP 84 (.mv (.t 10)), oP 85 (.mv (.t 11)), oP 86 (.mv (.t 2)), oP 87 (.cvi .i64 (.t 86)), oP 88 (.bin .add (.t 85) (.t 87)), oP 89 (.mv (.t 12)), oP 90 (.bld [(.v (.int .i64 0)), (.v (.int .i64 0))] [(0, (1, (.t 88))), (1, (1, (.t 89)))]), oB 91 (.call 34 [(.t 82), (.t 83), (.t 84), (.t 90)]), oP 81 (.mv (.t 91)), oP 92 (.ext (.t 81) 0), oP 93 (.ext (.t 81) 1), oP 20 (.mv (.t 92)),
  oP 21 (.mv (.t 93))]) (.seq (.ops false [oP 95 (.mv (.t 8)), oP 96 (.iaS 5 (.t 95) (cI 0)), oP 97 (.ld 5 true (.t 96)), oP 98 (.bld [(.v (.int .i64 0)), (.v (.int .i64 0))] [(0, (1, (cI 150)))]), oB 99 (.call 35 [(.t 97), (.t 98)]), oP 94 (.mv (.t 99)), oP 100 (.ext (.t 94) 0), oP 101 (.ext (.t 94) 1), oP 22 (.mv (.t 100)), oP 23 (.mv (.t 101))]) (.seq (.ops false [oP 102 (.mv (.t 15)),
  oP 103 (.bin .eql (.t 102) (cI 0)), oP 104 (.mv (.t 103)), oG 105 104 true (.mv (.t 17)), oG 106 104 true (.bin .eql (.t 105) (cI 0)), oP 107 (.pick (.t 104) (.t 106) (cB false)), oP 108 (.mv (.t 107)), oG 109 108 true (.mv (.t 19)), oG 110 108 true (.bin .eql (.t 109) (cI 0)), oP 111 (.pick (.t 108) (.t 110) (cB false)), oP 112 (.mv (.t 111)), oG 113 112 true (.mv (.t 21)),
  oG 114 112 true (.bin .eql (.t 113) (cI 0)), oP 115 (.pick (.t 112) (.t 114) (cB false)), oP 116 (.mv (.t 115)), oG 117 116 true (.mv (.t 23)), oG 118 116 true (.bin .eql (.t 117) (cI 0)), oP 119 (.pick (.t 116) (.t 118) (cB false)), oP 120 (.mv (.t 119)), oG 121 120 true (.mv (.t 22)), oG 122 120 true (.bin .eql (.t 121) (cI 1000000)), oP 123 (.pick (.t 120) (.t 122) (cB false)),
  oP 124 (.mv (.t 123)), oG 125 124 true (.mv (.t 14)), oG 126 124 true (.mv (.t 10)), oD 127 124 true (.call 36 [(.t 126)]) [], oG 128 124 true (.bin .eql (.t 125) (.t 127)), oP 129 (.pick (.t 124) (.t 128) (cB false)), oP 130 (.mv (.t 129)), oG 131 130 true (.mv (.t 16)), oG 132 130 true (.mv (.t 18)), oG 133 130 true (.bin .leq (.t 131) (.t 132)), oP 134 (.pick (.t 130) (.t 133) (cB false)),
  oP 135 (.mv (.t 134)), oG 136 135 true (.mv (.t 20)), oG 137 135 true (.mv (.t 16)), oG 138 135 true (.bin .leq (.t 136) (.t 137)), oP 139 (.pick (.t 135) (.t 138) (cB false)), oP 140 (.mv (.t 139)), oD 141 140 true (.call 28 []) [], oP 142 (.pick (.t 140) (.t 141) (cB false)), oP 6 (.mv (.t 142))]) .ret))))))
def c5_2 : C := (.seq (.ops false [oP 28 (.mv (.t 0)), oP 29 (.call 11 [(.t 28)]), oP 7 (.mv (.t 29))]) (.seq (.ops false [oP 30 (.mv (.t 7)), oP 31 (.call 29 [(.t 30)]), oP 8 (.mv (.t 31))]) (.seq (.ops false [oP 32 (.mv (.t 7)), oP 33 (.mv (.t 8)), oP 34 (.len (.t 33)), oP 35 (.call 30 [(.t 32), (cI 4), (.t 34)]), oP 9 (.mv (.t 35))]) (.seq (.ops false [oP 36 (.mv (.t 7)), oP 37 (.mv (.t 7)),
  oB 38 (.call 32 [(.t 37), (cI 1), (cI 2000)]), oP 39 (.call 31 [(.t 36), (.t 38), (cI 4)]), oP 10 (.mv (.t 39))]) (.seq (.ops false [oP 40 (.mv (.t 7)), oP 41 (.bsl 1 3 [(.v (.int .i64 0))] [(0, (cI 0)), (1, (cI 150)), (2, (cI 400))]), oB 42 (.call 33 [(.t 40), (.t 41)]), oP 43 (.mv (.t 1)), oP 44 (.cvi .i64 (.t 43)), oP 45 (.bin .mul (.t 44) (cI 10)), oP 46 (.mv (.t 1)),
  oP 47 (.cvi .i64 (.t 46)), oP 48 (.bin .mul (.t 47) (cI 10)), oP 49 (.mv (.t 2)), oP 50 (.cvi .i64 (.t 49)), oP 51 (.bin .mul (.t 50) (cI 10)), oP 52 (.bin .add (.t 48) (.t 51)), oP 11 (.mv (.t 42)), oP 12 (.mv (.t 45)), oP 13 (.mv (.t 52))]) (.weak c5_1))))))
def c5 : C := (.seq (.ops false [oP 6 (.mv (cB false))]) (.seq (.seq (.ops false [oP 24 (.mv (.t 0)), oB 25 (.call 9 [(.t 24)]), oP 26 (.not (.t 25))]) (.cond (.t 26) (.seq (.ops false [oB 27 (.call 28 []), oP 6 (.mv (.t 27))]) .ret) .skip)) c5_2))
def r5 : List RV := [(.tmp 6)]
def c9 : C := (.seq (.ops false [oP 2 (.mv (cB false))]) (.seq (.ops false [oP 3 (.mv (.t 0)), oP 4 (.len (.t 3)), oP 5 (.bin .leq (.t 4) (cI 400)), oP 2 (.mv (.t 5))]) .ret))
def r9 : List RV := [(.tmp 2)]
theorem c9_ok : ∃ code, Tryd.f9.body = some code ∧ compC Tryd.prog Tryd.f9.ntmps code = some (C.strip c9) := ⟨_, rfl, by kernel_rfl⟩
theorem r9_ok : compRes Tryd.prog Tryd.f9.results.toList = some r9 := by kernel_rfl
theorem f9_ok : fnOk Tryd.prog 9 = true := by kernel_rfl
def c17 : C := (.seq (.ops false [oP 4 (.mv (cI 0))]) (.seq (.ops false [oP 5 (.mv (.t 0)), oP 6 (.mv (.t 1)), oB 7 (.call 52 [(.t 5), (.t 6)]), oP 4 (.mv (.t 7))]) .ret))
def r17 : List RV := [(.tmp 4)]
theorem c17_ok : ∃ code, Tryd.f17.body = some code ∧ compC Tryd.prog Tryd.f17.ntmps code = some (C.strip c17) := ⟨_, rfl, by kernel_rfl⟩
theorem r17_ok : compRes Tryd.prog Tryd.f17.results.toList = some r17 := by kernel_rfl
theorem f17_ok : fnOk Tryd.prog 17 = true := by kernel_rfl
theorem few_e (L : List (List D)) (nn : Nm) : CallsA Tryd.prog 9 [.sl L] Hp.none nn (Pu (db (decide ((L.length : Int) ≤ 400))) Hp.none) := by
  obtain ⟨code, h1, h2⟩ := c9_ok
  refine callsA_of (T0_ok _) mixed (N := fun t => (0, t)) Tryd.func9 h1 h2 r9_ok [] false js_nil js_nil' (by simp [Tryd.f9]) ?_
  simp (maxSteps:=500000) only [↓vp, vv, ↓reduceIte, simprocAttr, c9, r9, Pu]
def selFe : List D → Option (Prop × D)
  | [.sl L] => some (True, db (decide ((L.length : Int) ≤ 400)))
  | _ => Option.none
theorem tc_fewe {T : Tbl} (hT : TblOk Tryd.prog T) : TblOk Tryd.prog (tc 9 (rowPu selFe) T) :=
  tc_pu f9_ok (fun args pre d h hp nn => by
    unfold selFe at h
    split at h <;> cases h
    exact few_e _ nn) hT
theorem bat_pl (l : List Bat) : ∀ j : Bat, j ∈ l → ∀ d : D, d ∈ j.row → d.plain = true := fun j _ d hd => by
  simp only [Bat.row, List.mem_cons, List.not_mem_nil, or_false] at hd
  rcases hd with rfl | rfl | rfl | rfl <;> rfl
theorem prd_pl (l : List Prd) : ∀ j : Prd, j ∈ l → ∀ d : D, d ∈ j.row → d.plain = true := fun j _ d hd => by
  simp only [Prd.row, List.mem_cons, List.not_mem_nil, or_false] at hd
  rcases hd with rfl | rfl | rfl | rfl | rfl <;> rfl
def c41_1 : C := (.block 2 (.ops true [oP 51 (.fa 0 (.t 3)), oA 52 (.ld 1 false (.t 51)) [0], oP 53 (.fa 0 (.t 3)), oA 54 (.ld 1 false (.t 53)) [2], oA 55 (.len (.t 54)) [2, 3], oE 56 (.call 51 [(.c (.v (.string ({ data := #[121] })))), (.t 55)]) [3, 2, 4], oP 57 (.fa 0 (.t 3)), oA 58 (.ld 1 false (.t 57)) [6], oA 59 (.len (.t 58)) [6, 7], oA 60 (.bin .quo (.t 59) (cI 26)) [7, 6, 8],
  oE 61 (.call 51 [(.c (.v (.string ({ data := #[] })))), (.t 60)]) [4, 2, 3, 8, 6, 7, 5, 9], oA 62 (.bin .add (.t 56) (.t 61)) [9, 7, 6, 8, 4, 2, 3, 10, 5], oA 63 (.bsl 1 1 [(.v (.string ({ data := #[] })))] [(0, (.t 62))]) [5, 10, 3, 2, 4, 8, 6, 7, 9, 11], oA 64 (.app 1 16 (.t 52) (.t 63)) [11, 9, 7, 6, 8, 4, 2, 3, 5, 0, 10, 12, 1], oA 65 (.fa 0 (.t 3)) [13, 12, 11, 10, 9, 8, 7, 6, 5, 4, 3, 2, 1,
  0], oT (.st 1 (.t 65) (.t 64)) [12, 11, 10, 9, 8, 7, 6, 5, 4, 3, 2, 1, 0, 13, 14]]))
def c41_2 : C := (.seq (.seq (.ops true [oP 44 (.fa 0 (.t 3)), oA 45 (.ld 1 false (.t 44)) [0], oA 46 (.len (.t 45)) [0, 1], oP 47 (.mv (.t 0)), oE 48 (.call 14 [(.t 47), (cI 2)]) [3], oA 49 (.bin .add (cI 23) (.t 48)) [3, 4], oA 50 (.bin .leq (.t 46) (.t 49)) [4, 3, 1, 0, 5, 2]]) (.cond (.t 50) .skip (.exit 1))) c41_1)
def c41_3 : C := (.block 0 (.seq (.ops false [oP 67 (.bin .eql (.t 43) (cI 0)), oP 66 (.mv (.t 67))]) (.cond (.t 66) (.ops true [oP 68 (.fa 0 (.t 3)), oA 69 (.ld 1 false (.t 68)) [0], oP 70 (.mv (.t 0)), oP 71 (.fa 0 (.t 3)), oA 72 (.ld 1 false (.t 71)) [3], oA 73 (.len (.t 72)) [3, 4], oE 74 (.call 14 [(.t 70), (.t 73)]) [4, 3, 5, 2], oP 75 (.mv (.t 0)), oP 76 (.bsl 1 4 [(.v (.string ({ data := #[] })))] [(0,
  (.c (.v (.string ({ data := #[] }))))), (1, (.c (.v (.string ({ data := #[110, 97] }))))), (2, (.c (.v (.string ({ data := #[65] }))))), (3, (.c (.v (.string ({ data := #[120, 45, 57] })))))]), oE 77 (.call 54 [(.t 75), (.t 76)]) [2, 5, 3, 4, 6, 8, 7], oA 78 (.iaS 1 (.t 69) (.t 74)) [9, 8, 7, 5, 4, 3, 2, 0, 6, 1], oT (.st 1 (.t 78) (.t 77)) [8, 7, 6, 5, 4, 3, 2, 1, 0, 9, 10]])
  (.seq (.ops false [oP 80 (.bin .eql (.t 43) (cI 1)), oP 79 (.mv (.t 80))]) (.cond (.t 79) (.ops false [oP 81 (.mv (.t 0)), oP 82 (.fa 2 (.t 6)), oP 83 (.ld 1 false (.t 82)), oP 84 (.fa 0 (.t 3)), oP 85 (.ld 1 false (.t 84)), oP 86 (.len (.t 85)), oP 87 (.bsl 1 4 [(.v (.int .i64 0))] [(0, (cI (-1))), (1, (.t 83)), (2, (.t 86)), (3, (cI 0))]), oB 88 (.call 33 [(.t 81), (.t 87)]),
  oP 89 (.fa 1 (.t 6)), oS (.st 1 (.t 89) (.t 88))]) (.seq (.ops false [oP 91 (.bin .eql (.t 43) (cI 2)), oP 90 (.mv (.t 91))]) (.cond (.t 90) (.ops false [oP 92 (.mv (.t 0)), oP 93 (.fa 3 (.t 6)), oP 94 (.ld 1 false (.t 93)), oP 95 (.bin .add (.t 94) (cI 1)), oP 96 (.bsl 1 4 [(.v (.int .i64 0))] [(0, (cI 0)), (1, (cI (-1))), (2, (.t 95)), (3, (cI 1000001))]), oB 97 (.call 33 [(.t 92), (.t 96)]),
  oP 98 (.fa 3 (.t 6)), oS (.st 1 (.t 98) (.t 97))]) (.seq (.ops false [oP 100 (.bin .eql (.t 43) (cI 3)), oP 99 (.mv (.t 100))]) (.cond (.t 99) (.ops false [oP 101 (.mv (.t 0)), oP 102 (.bsl 1 3 [(.v (.int .i64 0))] [(0, (cI (-1))), (1, (cI 1000)), (2, (cI 1001))]), oB 103 (.call 33 [(.t 101), (.t 102)]), oP 104 (.fa 4 (.t 6)), oS (.st 1 (.t 104) (.t 103))])
  (.seq (.ops false [oP 106 (.bin .eql (.t 43) (cI 4)), oP 105 (.mv (.t 106))]) (.cond (.t 105) (.ops false [oP 107 (.mv (.t 0)), oP 108 (.bsl 1 3 [(.v (.int .i64 0))] [(0, (cI (-1))), (1, (cI 100000)), (2, (cI 100001))]), oB 109 (.call 33 [(.t 107), (.t 108)]), oP 110 (.fa 5 (.t 6)), oS (.st 1 (.t 110) (.t 109))]) (.seq (.ops false [oP 112 (.bin .eql (.t 43) (cI 5)), oP 111 (.mv (.t 112))])
  (.cond (.t 111) (.seq (.ops false [oP 113 (.fa 6 (.t 6)), oP 114 (.ld 1 false (.t 113)), oP 115 (.len (.t 114)), oP 116 (.bin .gtr (.t 115) (cI 0))]) (.cond (.t 116) (.ops true [oP 117 (.fa 6 (.t 6)), oA 118 (.ld 1 false (.t 117)) [0], oP 119 (.mv (.t 0)), oP 120 (.fa 6 (.t 6)), oA 121 (.ld 1 false (.t 120)) [3], oA 122 (.len (.t 121)) [3, 4], oE 123 (.call 14 [(.t 119), (.t 122)]) [4, 3, 5, 2],
  oP 124 (.mv (.t 0)), oP 125 (.fa 3 (.t 6)), oA 126 (.ld 1 false (.t 125)) [8], oA 127 (.bsl 1 4 [(.v (.int .i64 0))] [(0, (cI (-1))), (1, (cI 0)), (2, (cI 1)), (3, (.t 126))]) [8, 9], oE 128 (.call 33 [(.t 124), (.t 127)]) [2, 5, 3, 4, 9, 8, 6, 10, 7], oA 129 (.iaS 3 (.t 118) (.t 123)) [11, 10, 9, 8, 7, 5, 4, 3, 2, 0, 6, 1], oA 130 (.fa 0 (.t 129)) [11, 10, 9, 8, 7, 6, 5, 4, 3, 2, 1, 0, 12],
  oT (.st 1 (.t 130) (.t 128)) [12, 10, 9, 8, 7, 6, 5, 4, 3, 2, 1, 0, 11, 13]]) .skip)) (.seq (.ops false [oP 132 (.bin .eql (.t 43) (cI 6)), oP 131 (.mv (.t 132))]) (.cond (.t 131) (.ops true [oP 133 (.fa 6 (.t 6)), oA 134 (.ld 1 false (.t 133)) [0], oP 135 (.mv (.t 0)), oP 136 (.fa 6 (.t 6)), oA 137 (.ld 1 false (.t 136)) [3], oA 138 (.len (.t 137)) [3, 4], oA 139 (.bin .add (.t 138) (cI 1)) [4,
  3, 5], oA 140 (.mnx false (cI 3) (.t 139)) [5, 3, 4, 6], oE 141 (.call 14 [(.t 135), (.t 140)]) [6, 4, 3, 5, 7, 2], oA 142 (.slc 3 (.t 134) Option.none (.some (.t 141))) [2, 7, 5, 3, 4, 6, 0, 8, 1], oA 143 (.fa 6 (.t 6)) [9, 8, 7, 6, 5, 4, 3, 2, 1, 0], oT (.st 1 (.t 143) (.t 142)) [7, 6, 5, 4, 3, 2, 1, 0, 8, 9, 10]]) (.seq (.ops false [oP 145 (.bin .eql (.t 43) (cI 7)), oP 144 (.mv (.t 145))])
  (.cond (.t 144) (.seq (.ops false [oP 146 (.fa 6 (.t 6)), oP 147 (.ld 1 false (.t 146)), oP 148 (.len (.t 147)), oP 149 (.bin .gtr (.t 148) (cI 0))]) (.cond (.t 149) (.ops true [oP 150 (.fa 6 (.t 6)), oA 151 (.ld 1 false (.t 150)) [0], oP 152 (.mv (.t 0)), oP 153 (.fa 6 (.t 6)), oA 154 (.ld 1 false (.t 153)) [3], oA 155 (.len (.t 154)) [3, 4], oE 156 (.call 14 [(.t 152), (.t 155)]) [4, 3, 5, 2],
  oP 157 (.mv (.t 0)), oP 158 (.bsl 1 4 [(.v (.int .i64 0))] [(0, (cI (-501))), (1, (cI (-500))), (2, (cI 5000)), (3, (cI 5001))]), oE 159 (.call 33 [(.t 157), (.t 158)]) [2, 5, 3, 4, 6, 8, 7], oA 160 (.iaS 3 (.t 151) (.t 156)) [9, 8, 7, 5, 4, 3, 2, 0, 6, 1], oA 161 (.fa 1 (.t 160)) [9, 8, 7, 6, 5, 4, 3, 2, 1, 0, 10], oT (.st 1 (.t 161) (.t 159)) [10, 8, 7, 6, 5, 4, 3, 2, 1, 0, 9, 11]]) .skip))
  (.seq (.ops false [oP 163 (.bin .eql (.t 43) (cI 8)), oP 162 (.mv (.t 163))]) (.cond (.t 162) (.seq (.ops false [oP 164 (.fa 2 (.t 3)), oP 165 (.ld 1 false (.t 164)), oP 166 (.len (.t 165)), oP 167 (.bin .gtr (.t 166) (cI 0))]) (.cond (.t 167) (.ops true [oP 168 (.fa 2 (.t 3)), oA 169 (.ld 1 false (.t 168)) [0], oP 170 (.mv (.t 0)), oP 171 (.fa 2 (.t 3)), oA 172 (.ld 1 false (.t 171)) [3],
  oA 173 (.len (.t 172)) [3, 4], oE 174 (.call 14 [(.t 170), (.t 173)]) [4, 3, 5, 2], oP 175 (.mv (.t 0)), oP 176 (.bsl 1 4 [(.v (.string ({ data := #[] })))] [(0, (.c (.v (.string ({ data := #[113, 97] }))))), (1, (.c (.v (.string ({ data := #[113, 98] }))))), (2, (.c (.v (.string ({ data := #[] }))))), (3, (.c (.v (.string ({ data := #[122] })))))]), oE 177 (.call 54 [(.t 175), (.t 176)]) [2, 5,
  3, 4, 6, 8, 7], oP 178 (.mv (.t 0)), oP 179 (.fa 0 (.t 3)), oA 180 (.ld 1 false (.t 179)) [11], oA 181 (.len (.t 180)) [11, 12], oA 182 (.bsl 1 4 [(.v (.int .i64 0))] [(0, (cI (-1))), (1, (cI 0)), (2, (cI 1)), (3, (.t 181))]) [12, 11, 13], oE 183 (.call 33 [(.t 178), (.t 182)]) [7, 8, 6, 4, 3, 5, 2, 13, 11, 12, 9, 14, 10], oP 184 (.mv (.t 0)), oP 185 (.bsl 1 4 [(.v (.int .i64 0))] [(0, (cI 0)),
  (1, (cI (-1))), (2, (cI 100000000)), (3, (cI 100000001))]), oE 186 (.call 33 [(.t 184), (.t 185)]) [10, 14, 9, 12, 11, 13, 2, 5, 3, 4, 6, 8, 7, 15, 17, 16], oA 187 (.bld [(.v (.string ({ data := #[] }))), (.v (.int .i64 0)), (.v (.int .i64 0))] [(0, (1, (.t 177))), (1, (1, (.t 183))), (2, (1, (.t 186)))]) [16, 17, 10, 14, 12, 11, 13, 7, 8, 6, 4, 3, 5, 2, 18, 15, 9], oA 188 (.iaS 3 (.t 169)
  (.t 174)) [19, 18, 17, 16, 15, 14, 13, 12, 11, 10, 9, 8, 7, 5, 4, 3, 2, 0, 6, 1], oT (.st 3 (.t 188) (.t 187)) [17, 16, 15, 14, 13, 12, 11, 10, 9, 8, 7, 6, 5, 4, 3, 2, 1, 0, 18, 19, 20]]) .skip)) (.seq (.ops false [oP 190 (.bin .eql (.t 43) (cI 9)), oP 189 (.mv (.t 190))]) (.cond (.t 189) (.ops true [oP 191 (.fa 3 (.t 3)), oA 192 (.ld 1 false (.t 191)) [0], oP 193 (.mv (.t 0)),
  oP 194 (.bsl 1 3 [(.v (.string ({ data := #[] })))] [(0, (.c (.v (.string ({ data := #[115, 97] }))))), (1, (.c (.v (.string ({ data := #[115, 122] }))))), (2, (.c (.v (.string ({ data := #[] })))))]), oE 195 (.call 54 [(.t 193), (.t 194)]) [3, 2], oP 196 (.mv (.t 0)), oP 197 (.bsl 1 5 [(.v (.int .i64 0))] [(0, (cI (-1))), (1, (cI 0)), (2, (cI 0)), (3, (cI 1)), (4, (cI 99))]),
  oE 198 (.call 33 [(.t 196), (.t 197)]) [2, 3, 4, 6, 5], oP 199 (.mv (.t 0)), oP 200 (.bsl 1 2 [(.v (.int .i64 0))] [(0, (cI 0)), (1, (cI (-1)))]), oE 201 (.call 33 [(.t 199), (.t 200)]) [5, 6, 4, 3, 2, 7, 9, 8], oP 202 (.mv (.t 0)), oP 203 (.bsl 1 2 [(.v (.int .i64 0))] [(0, (cI 0)), (1, (cI 100001))]), oE 204 (.call 33 [(.t 202), (.t 203)]) [8, 9, 7, 2, 3, 4, 6, 5, 10, 12, 11],
  oP 205 (.mv (.t 0)), oP 206 (.bsl 1 2 [(.v (.int .i64 0))] [(0, (cI 0)), (1, (cI (-1)))]), oE 207 (.call 33 [(.t 205), (.t 206)]) [11, 12, 10, 5, 6, 4, 3, 2, 7, 9, 8, 13, 15, 14], oA 208 (.bld [(.v (.string ({ data := #[] }))), (.v (.int .i64 0)), (.v (.int .i64 0)), (.v (.int .i64 0)), (.v (.int .i64 0))] [(0, (1, (.t 195))), (1, (1, (.t 198))), (2, (1, (.t 201))), (3, (1, (.t 204))), (4, (1,
  (.t 207)))]) [14, 15, 11, 12, 8, 9, 5, 6, 2, 3, 16, 13, 10, 7, 4], oA 209 (.bsl 5 1 [(.v (.string ({ data := #[] }))), (.v (.int .i64 0)), (.v (.int .i64 0)), (.v (.int .i64 0)), (.v (.int .i64 0))] [(0, (.t 208))]) [4, 7, 10, 13, 16, 3, 2, 6, 5, 9, 8, 12, 11, 15, 14, 17], oA 210 (.app 5 48 (.t 192) (.t 209)) [17, 14, 15, 11, 12, 8, 9, 5, 6, 2, 3, 13, 10, 7, 4, 0, 16, 18, 1], oA 211 (.fa 3 (.t 3))
  [19, 18, 17, 16, 15, 14, 13, 12, 11, 10, 9, 8, 7, 6, 5, 4, 3, 2, 1, 0], oT (.st 1 (.t 211) (.t 210)) [18, 17, 16, 15, 14, 13, 12, 11, 10, 9, 8, 7, 6, 5, 4, 3, 2, 1, 0, 19, 20]]) (.seq (.ops false [oP 213 (.bin .eql (.t 43) (cI 10)), oP 212 (.mv (.t 213))]) (.cond (.t 212) (.ops false [oP 214 (.mv (.t 0)), oP 215 (.bsl 1 3 [(.v (.int .i64 0))] [(0, (cI 0)), (1, (cI (-100001))), (2,
  (cI 100000001))]), oB 216 (.call 33 [(.t 214), (.t 215)]), oP 217 (.mv (.t 0)), oP 218 (.bsl 1 3 [(.v (.int .i64 0))] [(0, (cI 0)), (1, (cI (-1))), (2, (cI 101))]), oB 219 (.call 33 [(.t 217), (.t 218)]), oP 220 (.fa 4 (.t 3)), oS (.st 1 (.t 220) (.t 216)), oP 221 (.fa 5 (.t 3)), oS (.st 1 (.t 221) (.t 219))]) (.block 1 (.loop c41_2)))))))))))))))))))))))))
def c41_4 : C := (.seq (.ops false [oP 222 (.fa 1 (.t 3)), oP 223 (.ld 1 false (.t 222)), oP 224 (.mv (.t 5)), oP 225 (.ld 7 true (.t 6)), oP 226 (.iaS 7 (.t 223) (.t 224)), oS (.st 7 (.t 226) (.t 225))]) (.seq (.ops false [oP 227 (.ld 6 true (.t 3)), oS (.st 6 (.t 4) (.t 227))]) .ret))
def c41 : C := (.seq (.ops false [oP 3 (.box 6 (.t 1)), oP 4 (.new [.mt, .mt, .mt, .mt, (.v (.int .i64 0)), (.v (.int .i64 0))])]) (.seq (.ops false [oP 7 (.bsl 1 0 [(.v (.string ({ data := #[] })))] []), oP 8 (.fa 0 (.t 3)), oP 9 (.ld 1 false (.t 8)), oP 10 (.app 1 16 (.t 7) (.t 9)), oP 11 (.fa 0 (.t 3)), oS (.st 1 (.t 11) (.t 10))]) (.seq (.ops false [oP 12 (.bsl 7 0 [(.v (.string ({ data := #[] }))),
  (.v (.int .i64 0)), (.v (.int .i64 0)), (.v (.int .i64 0)), (.v (.int .i64 0)), (.v (.int .i64 0)), .mt] []), oP 13 (.fa 1 (.t 3)), oP 14 (.ld 1 false (.t 13)), oP 15 (.app 7 80 (.t 12) (.t 14)), oP 16 (.fa 1 (.t 3)), oS (.st 1 (.t 16) (.t 15))]) (.seq (.ops false [oP 17 (.bsl 3 0 [(.v (.string ({ data := #[] }))), (.v (.int .i64 0)), (.v (.int .i64 0))] []), oP 18 (.fa 2 (.t 3)),
  oP 19 (.ld 1 false (.t 18)), oP 20 (.app 3 32 (.t 17) (.t 19)), oP 21 (.fa 2 (.t 3)), oS (.st 1 (.t 21) (.t 20))]) (.seq (.ops false [oP 22 (.bsl 5 0 [(.v (.string ({ data := #[] }))), (.v (.int .i64 0)), (.v (.int .i64 0)), (.v (.int .i64 0)), (.v (.int .i64 0))] []), oP 23 (.fa 3 (.t 3)), oP 24 (.ld 1 false (.t 23)), oP 25 (.app 5 48 (.t 22) (.t 24)), oP 26 (.fa 3 (.t 3)), oS (.st 1 (.t 26)
  (.t 25))]) (.seq (.ops false [oP 27 (.mv (.t 0)), oP 28 (.fa 1 (.t 3)), oP 29 (.ld 1 false (.t 28)), oP 30 (.len (.t 29)), oB 31 (.call 14 [(.t 27), (.t 30)]), oP 5 (.mv (.t 31))]) (.seq (.ops false [oP 32 (.fa 1 (.t 3)), oP 33 (.ld 1 false (.t 32)), oP 34 (.mv (.t 5)), oP 35 (.iaS 7 (.t 33) (.t 34)), oP 36 (.ld 7 true (.t 35)), oP 6 (.new [(.v (.string ({ data := #[] }))), (.v (.int .i64 0)),
  (.v (.int .i64 0)), (.v (.int .i64 0)), (.v (.int .i64 0)), (.v (.int .i64 0)), .mt]), oS (.st 7 (.t 6) (.t 36))]) (.seq (.ops false [oP 37 (.bsl 3 0 [(.v (.int .i64 0)), (.v (.int .i64 0)), (.v (.int .i64 0))] []), oP 38 (.fa 6 (.t 6)), oP 39 (.ld 1 false (.t 38)), oP 40 (.app 3 24 (.t 37) (.t 39)), oP 41 (.fa 6 (.t 6)), oS (.st 1 (.t 41) (.t 40))]) (.seq (.seq (.ops false [oP 42 (.mv (.t 0)),
  oB 43 (.call 14 [(.t 42), (cI 12)])]) (.weak c41_3)) (.weak c41_4))))))))))
def r41 : List RV := [(.cell 4 6 true)]
theorem c41_ok : ∃ code, Tryd.f41.body = some code ∧ compC Tryd.prog Tryd.f41.ntmps code = some (C.strip c41) := ⟨_, rfl, by kernel_rfl⟩
theorem r41_ok : compRes Tryd.prog Tryd.f41.results.toList = some r41 := by kernel_rfl
theorem f41_ok : fnOk Tryd.prog 41 = true := by kernel_rfl
structure WrOk (n n' : Net) : Prop where
  nodes : n'.nodes.length ≤ 60
  segs : n'.segs.length = n.segs.length
  ports : n'.ports.length = n.ports.length
  sts : n'.sts.length ≤ n.sts.length + 1
  pts : ∀ s ∈ n'.segs, s.points.length ≤ 8
def WrH (i : Nm) (L : List (List D)) (at' : Int) (gn : Nat) (nodes : List ByteArray) (segs : List Seg) (ports : List Port) (gt : Nat) (sts : List Stn) (vap set : Int) (x : Seg) (pl : Nat) : Hp :=
  ((((((((Hp.none.put (i.1 + 1, 37) ⟨1, 3, x.points.map Pt.row⟩).put (i.1 + 1, 22) ⟨gt, 5, sts.map Stn.row⟩).put (i.1 + 1, 17) ⟨1, 3, ports.map Port.row⟩).put (i.1 + 1, 12) ⟨1, 7, segs.map Seg.row⟩).put (i.1 + 1, 7) ⟨gn, 1, nodes.map nmRow⟩).put (i.1 + 1, 6) ⟨0, 7, [[ds x.name, di x.fr, di x.to, di x.cap, di x.resist, di x.wave, .own (i.1 + 1, 37) 1 0 pl]]⟩).put (i.1 + 1, 4) ⟨0, 6, [[.mt, .mt, .mt, .mt, di 0, di 0]]⟩).put (i.1 + 1, 3) ⟨0, 6, [[.own (i.1 + 1, 7) gn 0 nodes.length, .own (i.1 + 1, 12) 1 0 segs.length, .own (i.1 + 1, 17) 1 0 ports.length, .own (i.1 + 1, 22) gt 0 sts.length, di vap, di set]]⟩).put i (sE L at')
def WrF (i : Nm) (k : Int) (l : List (Nat × D)) : List (Nat × D) := (0, .ptr i 0 0 0) :: (3, .ptr (i.1 + 1, 3) 0 0 0) :: (4, .ptr (i.1 + 1, 4) 0 0 0) :: (5, di k) :: (6, .ptr (i.1 + 1, 6) 0 0 0) :: l
def WrG (i : Nm) (L : List (List D)) (at' : Int) (nodes : List ByteArray) (segs : List Seg) (ports : List Port) (sts : List Stn) (vap set : Int) (x : Seg) : Hp :=
  ((((Hp.none.put (i.1 + 1, 12) ⟨1, 7, segs.map Seg.row⟩).put (i.1 + 1, 6) ⟨0, 7, [Seg.row x]⟩).put (i.1 + 1, 4) ⟨0, 6, [[.mt, .mt, .mt, .mt, di 0, di 0]]⟩).put (i.1 + 1, 3) ⟨0, 6, [[.sl (nodes.map nmRow), .own (i.1 + 1, 12) 1 0 segs.length, .sl (ports.map Port.row), .sl (sts.map Stn.row), di vap, di set]]⟩).put i (sE L at')
theorem nm_len (x : ByteArray) : (nmRow x).length = 1 := rfl
theorem seg_len (x : Seg) : (Seg.row x).length = 7 := rfl
theorem port_len (x : Port) : (Port.row x).length = 3 := rfl
theorem stn_len (x : Stn) : (Stn.row x).length = 5 := rfl
theorem pt_len (x : Pt) : (Pt.row x).length = 3 := rfl
theorem rows_le {α : Type} (f : α → List D) (h : ∀ x, rowV (f x) = true) (ks : List Nm) (H : Hp) (l : List α) : (l.map f).map (fun r => r.map (lendK ks H)) = l.map f := by
  rw [List.map_map]
  exact List.map_congr_left fun x _ => (rowV_ok (h x) ks H).2.2
def cutPts (x : Seg) (pl : Nat) : Seg := ⟨x.name, x.fr, x.to, x.cap, x.resist, x.wave, x.points.take pl⟩
set_option maxHeartbeats 16000000 in
theorem wr_end (i : Nm) (L : List (List D)) (at' : Int) (ho : SrcOk L at') (n : Net) (gn : Nat) (nodes : List ByteArray) (segs : List Seg) (ports : List Port) (gt : Nat) (sts : List Stn) (vap set : Int) (x : Seg) (pl : Nat) (hpl : pl ≤ x.points.length) (k : Nat) (hk : k < segs.length)
    (hpost : WrOk n ⟨nodes, segs.set k (cutPts x pl), ports, sts, vap, set⟩) (s : St) (hw : Weak [i] s ⟨fr (WrF i k []), WrH i L at' gn nodes segs ports gt sts vap set x pl⟩) :
    vc T2 (fun t => (i.1 + 1, t)) [i] (.weak c41_4) (finQ r41 [i] false (SrcR i L (WrOk n) Net.enc)) s := by
  have ra := rows_pl nmRow (fun _ => rfl) nodes
  have rb := rows_pl Port.row (fun _ => rfl) ports
  have rc := rows_pl Stn.row (fun _ => rfl) sts
  have rd := rows_pl Pt.row (fun _ => rfl) x.points
  have re := fun ks H => rows_ok Seg.row (fun _ => rfl) ks H segs
  have rf := fun ks H => rows_ok nmRow (fun _ => rfl) ks H nodes
  have rg := fun ks H => rows_ok Port.row (fun _ => rfl) ks H ports
  have rh := fun ks H => rows_ok Stn.row (fun _ => rfl) ks H sts
  have ri := fun ks H => rows_ok Pt.row (fun _ => rfl) ks H x.points
  have rj := fun ks H => rows_le Seg.row (fun _ => rfl) ks H segs
  have t1 : (nodes.map nmRow).take nodes.length = nodes.map nmRow := List.take_of_length_le (by simp)
  have t2 : (ports.map Port.row).take ports.length = ports.map Port.row := List.take_of_length_le (by simp)
  have t3 : (sts.map Stn.row).take sts.length = sts.map Stn.row := List.take_of_length_le (by simp)
  have t4 : (x.points.map Pt.row).take pl = (x.points.take pl).map Pt.row := (List.map_take ..).symm
  refine vc_wk (hw.trans ((weak_eq [] [i, (i.1 + 1, 3), (i.1 + 1, 4), (i.1 + 1, 6), (i.1 + 1, 7), (i.1 + 1, 12), (i.1 + 1, 17), (i.1 + 1, 22), (i.1 + 1, 37)] (WrF i k [])
      (H' := hp [(i, sE L at'), ((i.1 + 1, 3), ⟨0, 6, [[.own (i.1 + 1, 7) gn 0 nodes.length, .own (i.1 + 1, 12) 1 0 segs.length, .own (i.1 + 1, 17) 1 0 ports.length, .own (i.1 + 1, 22) gt 0 sts.length, di vap, di set]]⟩), ((i.1 + 1, 4), ⟨0, 6, [[.mt, .mt, .mt, .mt, di 0, di 0]]⟩), ((i.1 + 1, 6), ⟨0, 7, [[ds x.name, di x.fr, di x.to, di x.cap, di x.resist, di x.wave, .own (i.1 + 1, 37) 1 0 pl]]⟩), ((i.1 + 1, 7), ⟨gn, 1, nodes.map nmRow⟩), ((i.1 + 1, 12), ⟨1, 7, segs.map Seg.row⟩), ((i.1 + 1, 17), ⟨1, 3, ports.map Port.row⟩), ((i.1 + 1, 22), ⟨gt, 5, sts.map Stn.row⟩), ((i.1 + 1, 37), ⟨1, 3, x.points.map Pt.row⟩)])
      (by simp (maxSteps:=500000) only [↓vp, vv, ↓reduceIte, simprocAttr, coverS, WrF]) (by simp (maxSteps:=500000) only [↓vp, vv, ↓reduceIte, simprocAttr, refsF, WrF]) (by simp (maxSteps:=500000) only [↓vp, vv, ↓reduceIte, simprocAttr, WrH, sE, nmRow, Seg.row, Port.row, Stn.row, Pt.row]) (by simp) (by simp (maxSteps:=500000) only [↓vp, vv, ↓reduceIte, simprocAttr, hp_cons, hp_nil, WrH, sE]; try rfl)).trans
      (weak_fz [(i.1 + 1, 7), (i.1 + 1, 17), (i.1 + 1, 22), (i.1 + 1, 37)] [i, (i.1 + 1, 3), (i.1 + 1, 4), (i.1 + 1, 6), (i.1 + 1, 12)] (l := (WrF i k [])) (h := _) (l' := (WrF i k [])) (H' := (WrG i L at' nodes segs ports sts vap set (cutPts x pl))) (by simp (maxSteps:=500000) only [↓vp, vv, ↓reduceIte, simprocAttr, vz, listB, okKd, okK, lendKd, lendK, lendOk1B, frzF, Option.map_some, cond_true, cond_false, decide_true, decide_false, Bool.and_self, WrF, WrG, sE, cutPts, Seg.row, ra, rb, rc, rd, re, rf, rg, rh, ri, rj, t1, t2, t3, t4, hpl]) (by simp (maxSteps:=500000) only [↓vp, vv, ↓reduceIte, simprocAttr, vz, listB, okKd, okK, lendKd, lendK, lendOk1B, frzF, Option.map_some, cond_true, cond_false, decide_true, decide_false, Bool.and_self, WrF, WrG, sE, cutPts, Seg.row, ra, rb, rc, rd, re, rf, rg, rh, ri, rj, t1, t2, t3, t4, hpl]) (by simp (maxSteps:=500000) only [↓vp, vv, ↓reduceIte, simprocAttr, vz, listB, okKd, okK, lendKd, lendK, lendOk1B, frzF, Option.map_some, cond_true, cond_false, decide_true, decide_false, Bool.and_self, WrF, WrG, sE, cutPts, Seg.row, ra, rb, rc, rd, re, rf, rg, rh, ri, rj, t1, t2, t3, t4, hpl]; try rfl) (by simp (maxSteps:=500000) only [↓vp, vv, ↓reduceIte, simprocAttr, vz, listB, okKd, okK, lendKd, lendK, lendOk1B, frzF, Option.map_some, cond_true, cond_false, decide_true, decide_false, Bool.and_self, WrF, WrG, sE, cutPts, Seg.row, ra, rb, rc, rd, re, rf, rg, rh, ri, rj, t1, t2, t3, t4, hpl]; try rfl) (by simp (maxSteps:=500000) only [↓vp, vv, ↓reduceIte, simprocAttr, vz, listB, okKd, okK, lendKd, lendK, lendOk1B, frzF, Option.map_some, cond_true, cond_false, decide_true, decide_false, Bool.and_self, refsF, WrF, WrG, sE, cutPts, Seg.row, ra, rb, rc, rd, re, rf, rg, rh, ri, rj, t1, t2, t3, t4, hpl]) (by simp (maxSteps:=500000) only [↓vp, vv, ↓reduceIte, simprocAttr, vz, listB, okKd, okK, lendKd, lendK, lendOk1B, frzF, Option.map_some, cond_true, cond_false, decide_true, decide_false, Bool.and_self, WrF, WrG, sE, cutPts, Seg.row, ra, rb, rc, rd, re, rf, rg, rh, ri, rj, t1, t2, t3, t4, hpl]) (by simp)))) ?_
  have k0 := idx_nn k
  have k1 : (k : Int) < segs.length := by omega
  have hg : (segs.map Seg.row).getD k [] = Seg.row segs[k] := getD_map Seg.row segs k hk
  have hd : List.drop 7 (Seg.row segs[k]) = [] := rfl
  have hl7 := seg_len segs[k]
  generalize cutPts x pl = y at hpost
  have e1 : (segs.map Seg.row).set k [ds y.name, di y.fr, di y.to, di y.cap, di y.resist, di y.wave, .sl (y.points.map Pt.row)] = (segs.set k y).map Seg.row := (List.map_set ..).symm
  generalize segs[k] = z at hg hd hl7
  generalize hzz : Seg.row z = zz at hg hd hl7
  have hpl2 := rows_pl Seg.row (fun _ => rfl) (segs.set k y)
  have e2 : ((segs.set k y).map Seg.row).take segs.length = (segs.set k y).map Seg.row := List.take_of_length_le (by simp)
  simp (maxSteps:=500000) only [↓vp, vv, ↓reduceIte, simprocAttr, c41_4, r41, WrF, WrG, k0, k1, hk, Int.toNat_natCast, Seg.row, hg, hd, hl7, e1, e2, List.length_set, List.length_map]
  exact ⟨at', _, ho, hpost, rfl, rfl⟩
theorem nm1B_size (f : ByteArray) (n : Int) : (nm1B f n).size = f.size + 1 := by
  unfold nm1B
  rw [ByteArray.size_append]
  rfl
theorem at7 (k : Nat) (l : List Seg) (h : k < l.length) : ((l.map Seg.row).getD k []) = Seg.row l[k] := getD_map Seg.row l k h
set_option maxHeartbeats 16000000 in
theorem wr_sw (n : Net) (hn : NetOk n) (i : Nm) (L : List (List D)) (at' : Int) (ho : SrcOk L at') (kn : Nat) (hkn : kn < n.segs.length) (s : Seg) (hpt : s.points.length ≤ 8) (c : Int) (hc : 0 ≤ c ∧ c < 12) :
    vc T2 (fun t => (i.1 + 1, t)) [i] c41_3 (thenQ (vc T2 (fun t => (i.1 + 1, t)) [i] (.weak c41_4) (finQ r41 [i] false (SrcR i L (WrOk n) Net.enc))) (finQ r41 [i] false (SrcR i L (WrOk n) Net.enc))) ⟨fr (WrF i kn [(43, di c)]), WrH i L at' 1 n.nodes n.segs n.ports 1 n.sts n.vap n.set s s.points.length⟩ := by
  have hsl := hn.slen
  have hnl := hn.nlen
  have hql := hn.ports.len
  have htl := hn.sts.len
  have : c = 0 ∨ c = 1 ∨ c = 2 ∨ c = 3 ∨ c = 4 ∨ c = 5 ∨ c = 6 ∨ c = 7 ∨ c = 8 ∨ c = 9 ∨ c = 10 ∨ c = 11 := by omega
  have npt : ∀ s ∈ n.segs, s.points.length ≤ 8 := fun s hsm => by
    obtain ⟨j, a, b, _, _, _, hk, _⟩ := hn.segs.mem hsm
    have := hk.len
    omega
  have fin : ∀ (at1 : SA L) (gn : Nat) (nodes : List ByteArray) (ports : List Port) (gt : Nat) (sts : List Stn) (vap set : Int) (x : Seg) (pl : Nat), pl ≤ x.points.length → x.points.length ≤ 8 → nodes.length ≤ 60 → ports.length = n.ports.length → sts.length ≤ n.sts.length + 1 →
      ∀ st, Weak [i] st ⟨fr (WrF i kn []), WrH i L at1.1 gn nodes n.segs ports gt sts vap set x pl⟩ → vc T2 (fun t => (i.1 + 1, t)) [i] (.weak c41_4) (finQ r41 [i] false (SrcR i L (WrOk n) Net.enc)) st :=
    fun at1 gn nodes ports gt sts vap set x pl h1 h2 h3 h4 h5 st hw => wr_end i L at1.1 at1.2 n gn nodes n.segs ports gt sts vap set x pl h1 kn hkn ⟨h3, by simp, h4, h5, fun y hy => by
      rcases List.mem_or_eq_of_mem_set hy with hy | rfl
      · exact npt y hy
      · unfold cutPts; dsimp only; rw [List.length_take]; omega⟩ st hw
  have hm : ∀ j (h : j < n.nodes.length), (n.nodes.map nmRow).getD j [] = [ds n.nodes[j]] := fun j h => getD_map nmRow n.nodes j h
  rcases this with rfl | rfl | rfl | rfl | rfl | rfl | rfl | rfl | rfl | rfl | rfl | rfl
  · simp (maxSteps:=500000) only [↓vp, vv, ↓reduceIte, simprocAttr, c41_3, T2, T1, selI, selText, selPick, selName, ho, WrF, WrH]
    refine ⟨⟨by omega, by omega⟩, fun a1 j hj a2 t ht => ?_⟩
    unfold NPost at hj
    obtain ⟨jn, rfl⟩ : ∃ jn : Nat, j = jn := ⟨j.toNat, by omega⟩
    have hjn : jn < n.nodes.length := by omega
    have j0 := idx_nn jn
    have j1 : (jn : Int) < n.nodes.length := by omega
    have hg := hm jn hjn
    have e1 : (n.nodes.map nmRow).set jn [ds t] = (n.nodes.set jn t).map nmRow := (List.map_set ..).symm
    simp (maxSteps:=500000) only [↓vp, vv, ↓reduceIte, simprocAttr, Int.toNat_natCast, hjn, j0, j1, hg, e1]
    exact fin a2 1 (n.nodes.set jn t) n.ports 1 n.sts n.vap n.set s s.points.length (Nat.le_refl _) hpt (by rw [List.length_set]; omega) rfl (by omega) _ (weak_eq [] [i, (i.1 + 1, 3), (i.1 + 1, 4), (i.1 + 1, 6), (i.1 + 1, 7), (i.1 + 1, 12), (i.1 + 1, 17), (i.1 + 1, 22), (i.1 + 1, 37)] (WrF i kn []) (by simp (maxSteps:=500000) only [↓vp, vv, ↓reduceIte, simprocAttr, coverS, WrF, WrH, sE, nmRow, Seg.row, Port.row, Stn.row, Pt.row, List.length_set]) (by simp (maxSteps:=500000) only [↓vp, vv, ↓reduceIte, simprocAttr, refsF, WrF, WrH, sE, nmRow, Seg.row, Port.row, Stn.row, Pt.row, List.length_set]) (by simp (maxSteps:=500000) only [↓vp, vv, ↓reduceIte, simprocAttr, WrF, WrH, sE, nmRow, Seg.row, Port.row, Stn.row, Pt.row, List.length_set]) (by simp) (by simp (maxSteps:=500000) only [↓vp, vv, ↓reduceIte, simprocAttr, WrF, WrH, sE, nmRow, Seg.row, Port.row, Stn.row, Pt.row, List.length_set]; try rfl))
  · simp (maxSteps:=500000) only [↓vp, vv, ↓reduceIte, simprocAttr, c41_3, T2, T1, selI, selText, selPick, selName, ho, WrF, WrH]
    intro a1 v hv
    exact fin a1 1 n.nodes n.ports 1 n.sts n.vap n.set ⟨s.name, v, s.to, s.cap, s.resist, s.wave, s.points⟩ s.points.length (Nat.le_refl _) hpt (by omega) rfl (by omega) _ (weak_eq [] [i, (i.1 + 1, 3), (i.1 + 1, 4), (i.1 + 1, 6), (i.1 + 1, 7), (i.1 + 1, 12), (i.1 + 1, 17), (i.1 + 1, 22), (i.1 + 1, 37)] (WrF i kn []) (by simp (maxSteps:=500000) only [↓vp, vv, ↓reduceIte, simprocAttr, coverS, WrF, WrH, sE, nmRow, Seg.row, Port.row, Stn.row, Pt.row]) (by simp (maxSteps:=500000) only [↓vp, vv, ↓reduceIte, simprocAttr, refsF, WrF, WrH, sE, nmRow, Seg.row, Port.row, Stn.row, Pt.row]) (by simp (maxSteps:=500000) only [↓vp, vv, ↓reduceIte, simprocAttr, WrF, WrH, sE, nmRow, Seg.row, Port.row, Stn.row, Pt.row]) (by simp) (by simp (maxSteps:=500000) only [↓vp, vv, ↓reduceIte, simprocAttr, WrF, WrH, sE, nmRow, Seg.row, Port.row, Stn.row, Pt.row]; try rfl))
  · simp (maxSteps:=500000) only [↓vp, vv, ↓reduceIte, simprocAttr, c41_3, T2, T1, selI, selText, selPick, selName, ho, WrF, WrH]
    intro a1 v hv
    exact fin a1 1 n.nodes n.ports 1 n.sts n.vap n.set ⟨s.name, s.fr, s.to, v, s.resist, s.wave, s.points⟩ s.points.length (Nat.le_refl _) hpt (by omega) rfl (by omega) _ (weak_eq [] [i, (i.1 + 1, 3), (i.1 + 1, 4), (i.1 + 1, 6), (i.1 + 1, 7), (i.1 + 1, 12), (i.1 + 1, 17), (i.1 + 1, 22), (i.1 + 1, 37)] (WrF i kn []) (by simp (maxSteps:=500000) only [↓vp, vv, ↓reduceIte, simprocAttr, coverS, WrF, WrH, sE, nmRow, Seg.row, Port.row, Stn.row, Pt.row]) (by simp (maxSteps:=500000) only [↓vp, vv, ↓reduceIte, simprocAttr, refsF, WrF, WrH, sE, nmRow, Seg.row, Port.row, Stn.row, Pt.row]) (by simp (maxSteps:=500000) only [↓vp, vv, ↓reduceIte, simprocAttr, WrF, WrH, sE, nmRow, Seg.row, Port.row, Stn.row, Pt.row]) (by simp) (by simp (maxSteps:=500000) only [↓vp, vv, ↓reduceIte, simprocAttr, WrF, WrH, sE, nmRow, Seg.row, Port.row, Stn.row, Pt.row]; try rfl))
  · simp (maxSteps:=500000) only [↓vp, vv, ↓reduceIte, simprocAttr, c41_3, T2, T1, selI, selText, selPick, selName, ho, WrF, WrH]
    intro a1 v hv
    exact fin a1 1 n.nodes n.ports 1 n.sts n.vap n.set ⟨s.name, s.fr, s.to, s.cap, v, s.wave, s.points⟩ s.points.length (Nat.le_refl _) hpt (by omega) rfl (by omega) _ (weak_eq [] [i, (i.1 + 1, 3), (i.1 + 1, 4), (i.1 + 1, 6), (i.1 + 1, 7), (i.1 + 1, 12), (i.1 + 1, 17), (i.1 + 1, 22), (i.1 + 1, 37)] (WrF i kn []) (by simp (maxSteps:=500000) only [↓vp, vv, ↓reduceIte, simprocAttr, coverS, WrF, WrH, sE, nmRow, Seg.row, Port.row, Stn.row, Pt.row]) (by simp (maxSteps:=500000) only [↓vp, vv, ↓reduceIte, simprocAttr, refsF, WrF, WrH, sE, nmRow, Seg.row, Port.row, Stn.row, Pt.row]) (by simp (maxSteps:=500000) only [↓vp, vv, ↓reduceIte, simprocAttr, WrF, WrH, sE, nmRow, Seg.row, Port.row, Stn.row, Pt.row]) (by simp) (by simp (maxSteps:=500000) only [↓vp, vv, ↓reduceIte, simprocAttr, WrF, WrH, sE, nmRow, Seg.row, Port.row, Stn.row, Pt.row]; try rfl))
  · simp (maxSteps:=500000) only [↓vp, vv, ↓reduceIte, simprocAttr, c41_3, T2, T1, selI, selText, selPick, selName, ho, WrF, WrH]
    intro a1 v hv
    exact fin a1 1 n.nodes n.ports 1 n.sts n.vap n.set ⟨s.name, s.fr, s.to, s.cap, s.resist, v, s.points⟩ s.points.length (Nat.le_refl _) hpt (by omega) rfl (by omega) _ (weak_eq [] [i, (i.1 + 1, 3), (i.1 + 1, 4), (i.1 + 1, 6), (i.1 + 1, 7), (i.1 + 1, 12), (i.1 + 1, 17), (i.1 + 1, 22), (i.1 + 1, 37)] (WrF i kn []) (by simp (maxSteps:=500000) only [↓vp, vv, ↓reduceIte, simprocAttr, coverS, WrF, WrH, sE, nmRow, Seg.row, Port.row, Stn.row, Pt.row]) (by simp (maxSteps:=500000) only [↓vp, vv, ↓reduceIte, simprocAttr, refsF, WrF, WrH, sE, nmRow, Seg.row, Port.row, Stn.row, Pt.row]) (by simp (maxSteps:=500000) only [↓vp, vv, ↓reduceIte, simprocAttr, WrF, WrH, sE, nmRow, Seg.row, Port.row, Stn.row, Pt.row]) (by simp) (by simp (maxSteps:=500000) only [↓vp, vv, ↓reduceIte, simprocAttr, WrF, WrH, sE, nmRow, Seg.row, Port.row, Stn.row, Pt.row]; try rfl))
  · simp (maxSteps:=500000) only [↓vp, vv, ↓reduceIte, simprocAttr, c41_3, T2, T1, selI, selText, selPick, selName, ho, WrF, WrH]
    split
    · refine ⟨⟨by omega, by omega⟩, fun a1 j hj a2 v hv => ?_⟩
      unfold NPost at hj
      obtain ⟨jn, rfl⟩ : ∃ jn : Nat, j = jn := ⟨j.toNat, by omega⟩
      have hjn : jn < s.points.length := by omega
      have j0 := idx_nn jn
      have j1 : (jn : Int) < s.points.length := by omega
      have hg : (s.points.map Pt.row).getD jn [] = Pt.row s.points[jn] := getD_map Pt.row s.points jn hjn
      generalize s.points[jn] = p0 at hg
      have e1 : (s.points.map Pt.row).set jn [di v, di p0.height, di p0.limit] = (s.points.set jn ⟨v, p0.height, p0.limit⟩).map Pt.row := by rw [List.map_set]; rfl
      simp (maxSteps:=500000) only [↓vp, vv, ↓reduceIte, simprocAttr, Int.toNat_natCast, hjn, j0, j1, hg, Pt.row, e1]
      exact fin a2 1 n.nodes n.ports 1 n.sts n.vap n.set ⟨s.name, s.fr, s.to, s.cap, s.resist, s.wave, s.points.set jn ⟨v, p0.height, p0.limit⟩⟩ s.points.length (by simp) (by simpa using hpt) (by omega) rfl (by omega) _ (weak_eq [] [i, (i.1 + 1, 3), (i.1 + 1, 4), (i.1 + 1, 6), (i.1 + 1, 7), (i.1 + 1, 12), (i.1 + 1, 17), (i.1 + 1, 22), (i.1 + 1, 37)] (WrF i kn []) (by simp (maxSteps:=500000) only [↓vp, vv, ↓reduceIte, simprocAttr, coverS, WrF, WrH, sE, nmRow, Seg.row, Port.row, Stn.row, Pt.row, e1, List.length_set]) (by simp (maxSteps:=500000) only [↓vp, vv, ↓reduceIte, simprocAttr, refsF, WrF, WrH, sE, nmRow, Seg.row, Port.row, Stn.row, Pt.row, e1, List.length_set]) (by simp (maxSteps:=500000) only [↓vp, vv, ↓reduceIte, simprocAttr, WrF, WrH, sE, nmRow, Seg.row, Port.row, Stn.row, Pt.row, e1, List.length_set]) (by simp) (by simp (maxSteps:=500000) only [↓vp, vv, ↓reduceIte, simprocAttr, WrF, WrH, sE, nmRow, Seg.row, Port.row, Stn.row, Pt.row, e1, List.length_set]; try rfl))
    · exact fin ⟨at', ho⟩ 1 n.nodes n.ports 1 n.sts n.vap n.set s s.points.length (Nat.le_refl _) hpt (by omega) rfl (by omega) _ (weak_eq [] [i, (i.1 + 1, 3), (i.1 + 1, 4), (i.1 + 1, 6), (i.1 + 1, 7), (i.1 + 1, 12), (i.1 + 1, 17), (i.1 + 1, 22), (i.1 + 1, 37)] (WrF i kn []) (by simp (maxSteps:=500000) only [↓vp, vv, ↓reduceIte, simprocAttr, coverS, WrF, WrH, sE, nmRow, Seg.row, Port.row, Stn.row, Pt.row]) (by simp (maxSteps:=500000) only [↓vp, vv, ↓reduceIte, simprocAttr, refsF, WrF, WrH, sE, nmRow, Seg.row, Port.row, Stn.row, Pt.row]) (by simp (maxSteps:=500000) only [↓vp, vv, ↓reduceIte, simprocAttr, WrF, WrH, sE, nmRow, Seg.row, Port.row, Stn.row, Pt.row]) (by simp) (by simp (maxSteps:=500000) only [↓vp, vv, ↓reduceIte, simprocAttr, WrF, WrH, sE, nmRow, Seg.row, Port.row, Stn.row, Pt.row]; try rfl))
  · simp (maxSteps:=500000) only [↓vp, vv, ↓reduceIte, simprocAttr, c41_3, T2, T1, selI, selText, selPick, selName, ho, WrF, WrH]
    have w1 : IntKind.i64.wrap ((s.points.length : Int) + 1) = s.points.length + 1 := wrap_i (by omega)
    obtain ⟨q, hq, q1, q2⟩ : ∃ q : Int, (if (s.points.length : Int) + 1 < 3 then (s.points.length : Int) + 1 else 3) = q ∧ 1 ≤ q ∧ q ≤ s.points.length + 1 := ⟨_, rfl, by split <;> omega, by split <;> omega⟩
    simp only [w1, hq]
    refine ⟨⟨by omega, by omega⟩, fun a1 j hj => ?_⟩
    unfold NPost at hj
    obtain ⟨jn, rfl⟩ : ∃ jn : Nat, j = jn := ⟨j.toNat, by omega⟩
    refine ⟨by omega, ?_⟩
    exact fin a1 1 n.nodes n.ports 1 n.sts n.vap n.set s jn (by omega) hpt (by omega) rfl (by omega) _ (weak_eq [] [i, (i.1 + 1, 3), (i.1 + 1, 4), (i.1 + 1, 6), (i.1 + 1, 7), (i.1 + 1, 12), (i.1 + 1, 17), (i.1 + 1, 22), (i.1 + 1, 37)] (WrF i kn []) (by simp (maxSteps:=500000) only [↓vp, vv, ↓reduceIte, simprocAttr, coverS, WrF, WrH, sE, nmRow, Seg.row, Port.row, Stn.row, Pt.row, Int.toNat_natCast, Nat.sub_zero]) (by simp (maxSteps:=500000) only [↓vp, vv, ↓reduceIte, simprocAttr, refsF, WrF, WrH, sE, nmRow, Seg.row, Port.row, Stn.row, Pt.row, Int.toNat_natCast, Nat.sub_zero]) (by simp (maxSteps:=500000) only [↓vp, vv, ↓reduceIte, simprocAttr, WrF, WrH, sE, nmRow, Seg.row, Port.row, Stn.row, Pt.row, Int.toNat_natCast, Nat.sub_zero]) (by simp) (by simp (maxSteps:=500000) only [↓vp, vv, ↓reduceIte, simprocAttr, WrF, WrH, sE, nmRow, Seg.row, Port.row, Stn.row, Pt.row, Int.toNat_natCast, Nat.sub_zero]; try rfl))
  · simp (maxSteps:=500000) only [↓vp, vv, ↓reduceIte, simprocAttr, c41_3, T2, T1, selI, selText, selPick, selName, ho, WrF, WrH]
    split
    · refine ⟨⟨by omega, by omega⟩, fun a1 j hj a2 v hv => ?_⟩
      unfold NPost at hj
      obtain ⟨jn, rfl⟩ : ∃ jn : Nat, j = jn := ⟨j.toNat, by omega⟩
      have hjn : jn < s.points.length := by omega
      have j0 := idx_nn jn
      have j1 : (jn : Int) < s.points.length := by omega
      have hg : (s.points.map Pt.row).getD jn [] = Pt.row s.points[jn] := getD_map Pt.row s.points jn hjn
      generalize s.points[jn] = p0 at hg
      have e1 : (s.points.map Pt.row).set jn [di p0.at', di v, di p0.limit] = (s.points.set jn ⟨p0.at', v, p0.limit⟩).map Pt.row := by rw [List.map_set]; rfl
      simp (maxSteps:=500000) only [↓vp, vv, ↓reduceIte, simprocAttr, Int.toNat_natCast, hjn, j0, j1, hg, Pt.row, e1]
      exact fin a2 1 n.nodes n.ports 1 n.sts n.vap n.set ⟨s.name, s.fr, s.to, s.cap, s.resist, s.wave, s.points.set jn ⟨p0.at', v, p0.limit⟩⟩ s.points.length (by simp) (by simpa using hpt) (by omega) rfl (by omega) _ (weak_eq [] [i, (i.1 + 1, 3), (i.1 + 1, 4), (i.1 + 1, 6), (i.1 + 1, 7), (i.1 + 1, 12), (i.1 + 1, 17), (i.1 + 1, 22), (i.1 + 1, 37)] (WrF i kn []) (by simp (maxSteps:=500000) only [↓vp, vv, ↓reduceIte, simprocAttr, coverS, WrF, WrH, sE, nmRow, Seg.row, Port.row, Stn.row, Pt.row, e1, List.length_set]) (by simp (maxSteps:=500000) only [↓vp, vv, ↓reduceIte, simprocAttr, refsF, WrF, WrH, sE, nmRow, Seg.row, Port.row, Stn.row, Pt.row, e1, List.length_set]) (by simp (maxSteps:=500000) only [↓vp, vv, ↓reduceIte, simprocAttr, WrF, WrH, sE, nmRow, Seg.row, Port.row, Stn.row, Pt.row, e1, List.length_set]) (by simp) (by simp (maxSteps:=500000) only [↓vp, vv, ↓reduceIte, simprocAttr, WrF, WrH, sE, nmRow, Seg.row, Port.row, Stn.row, Pt.row, e1, List.length_set]; try rfl))
    · exact fin ⟨at', ho⟩ 1 n.nodes n.ports 1 n.sts n.vap n.set s s.points.length (Nat.le_refl _) hpt (by omega) rfl (by omega) _ (weak_eq [] [i, (i.1 + 1, 3), (i.1 + 1, 4), (i.1 + 1, 6), (i.1 + 1, 7), (i.1 + 1, 12), (i.1 + 1, 17), (i.1 + 1, 22), (i.1 + 1, 37)] (WrF i kn []) (by simp (maxSteps:=500000) only [↓vp, vv, ↓reduceIte, simprocAttr, coverS, WrF, WrH, sE, nmRow, Seg.row, Port.row, Stn.row, Pt.row]) (by simp (maxSteps:=500000) only [↓vp, vv, ↓reduceIte, simprocAttr, refsF, WrF, WrH, sE, nmRow, Seg.row, Port.row, Stn.row, Pt.row]) (by simp (maxSteps:=500000) only [↓vp, vv, ↓reduceIte, simprocAttr, WrF, WrH, sE, nmRow, Seg.row, Port.row, Stn.row, Pt.row]) (by simp) (by simp (maxSteps:=500000) only [↓vp, vv, ↓reduceIte, simprocAttr, WrF, WrH, sE, nmRow, Seg.row, Port.row, Stn.row, Pt.row]; try rfl))
  · simp (maxSteps:=500000) only [↓vp, vv, ↓reduceIte, simprocAttr, c41_3, T2, T1, selI, selText, selPick, selName, ho, WrF, WrH]
    split
    · refine ⟨⟨by omega, by omega⟩, fun a1 j hj a2 t ht a3 v hv a4 u hu => ?_⟩
      unfold NPost at hj
      obtain ⟨jn, rfl⟩ : ∃ jn : Nat, j = jn := ⟨j.toNat, by omega⟩
      have hjn : jn < n.ports.length := by omega
      have j0 := idx_nn jn
      have j1 : (jn : Int) < n.ports.length := by omega
      have hg : (n.ports.map Port.row).getD jn [] = Port.row n.ports[jn] := getD_map Port.row n.ports jn hjn
      generalize n.ports[jn] = p0 at hg
      have e1 : (n.ports.map Port.row).set jn [ds t, di v, di u] = (n.ports.set jn ⟨t, v, u⟩).map Port.row := by rw [List.map_set]; rfl
      simp (maxSteps:=500000) only [↓vp, vv, ↓reduceIte, simprocAttr, Int.toNat_natCast, hjn, j0, j1, hg, Port.row, e1]
      exact fin a4 1 n.nodes (n.ports.set jn ⟨t, v, u⟩) 1 n.sts n.vap n.set s s.points.length (Nat.le_refl _) hpt (by omega) (by simp) (by omega) _ (weak_eq [] [i, (i.1 + 1, 3), (i.1 + 1, 4), (i.1 + 1, 6), (i.1 + 1, 7), (i.1 + 1, 12), (i.1 + 1, 17), (i.1 + 1, 22), (i.1 + 1, 37)] (WrF i kn []) (by simp (maxSteps:=500000) only [↓vp, vv, ↓reduceIte, simprocAttr, coverS, WrF, WrH, sE, nmRow, Seg.row, Port.row, Stn.row, Pt.row, e1, List.length_set]) (by simp (maxSteps:=500000) only [↓vp, vv, ↓reduceIte, simprocAttr, refsF, WrF, WrH, sE, nmRow, Seg.row, Port.row, Stn.row, Pt.row, e1, List.length_set]) (by simp (maxSteps:=500000) only [↓vp, vv, ↓reduceIte, simprocAttr, WrF, WrH, sE, nmRow, Seg.row, Port.row, Stn.row, Pt.row, e1, List.length_set]) (by simp) (by simp (maxSteps:=500000) only [↓vp, vv, ↓reduceIte, simprocAttr, WrF, WrH, sE, nmRow, Seg.row, Port.row, Stn.row, Pt.row, e1, List.length_set]; try rfl))
    · exact fin ⟨at', ho⟩ 1 n.nodes n.ports 1 n.sts n.vap n.set s s.points.length (Nat.le_refl _) hpt (by omega) rfl (by omega) _ (weak_eq [] [i, (i.1 + 1, 3), (i.1 + 1, 4), (i.1 + 1, 6), (i.1 + 1, 7), (i.1 + 1, 12), (i.1 + 1, 17), (i.1 + 1, 22), (i.1 + 1, 37)] (WrF i kn []) (by simp (maxSteps:=500000) only [↓vp, vv, ↓reduceIte, simprocAttr, coverS, WrF, WrH, sE, nmRow, Seg.row, Port.row, Stn.row, Pt.row]) (by simp (maxSteps:=500000) only [↓vp, vv, ↓reduceIte, simprocAttr, refsF, WrF, WrH, sE, nmRow, Seg.row, Port.row, Stn.row, Pt.row]) (by simp (maxSteps:=500000) only [↓vp, vv, ↓reduceIte, simprocAttr, WrF, WrH, sE, nmRow, Seg.row, Port.row, Stn.row, Pt.row]) (by simp) (by simp (maxSteps:=500000) only [↓vp, vv, ↓reduceIte, simprocAttr, WrF, WrH, sE, nmRow, Seg.row, Port.row, Stn.row, Pt.row]; try rfl))
  · simp (maxSteps:=500000) only [↓vp, vv, ↓reduceIte, simprocAttr, c41_3, T2, T1, selI, selText, selPick, selName, ho, WrF, WrH]
    intro a1 t ht a2 v1 hv1 a3 v2 hv2 a4 v3 hv3 a5 v4 hv4
    refine ⟨⟨by omega, by omega⟩, ?_⟩
    have e1 : n.sts.map Stn.row ++ [[ds t, di v1, di v2, di v3, di v4]] = (n.sts ++ [(⟨t, v1, v2, v3, v4⟩ : Stn)]).map Stn.row := by rw [List.map_append]; rfl
    exact fin a5 1 n.nodes n.ports 2 (n.sts ++ [⟨t, v1, v2, v3, v4⟩]) n.vap n.set s s.points.length (Nat.le_refl _) hpt (by omega) rfl (by simp) _ (weak_eq [] [i, (i.1 + 1, 3), (i.1 + 1, 4), (i.1 + 1, 6), (i.1 + 1, 7), (i.1 + 1, 12), (i.1 + 1, 17), (i.1 + 1, 22), (i.1 + 1, 37)] (WrF i kn []) (by simp (maxSteps:=500000) only [↓vp, vv, ↓reduceIte, simprocAttr, coverS, WrF, WrH, sE, nmRow, Seg.row, Port.row, Stn.row, Pt.row, e1, List.length_append, List.length_cons, List.length_nil]) (by simp (maxSteps:=500000) only [↓vp, vv, ↓reduceIte, simprocAttr, refsF, WrF, WrH, sE, nmRow, Seg.row, Port.row, Stn.row, Pt.row, e1, List.length_append, List.length_cons, List.length_nil]) (by simp (maxSteps:=500000) only [↓vp, vv, ↓reduceIte, simprocAttr, WrF, WrH, sE, nmRow, Seg.row, Port.row, Stn.row, Pt.row, e1, List.length_append, List.length_cons, List.length_nil]) (by simp) (by simp (maxSteps:=500000) only [↓vp, vv, ↓reduceIte, simprocAttr, WrF, WrH, sE, nmRow, Seg.row, Port.row, Stn.row, Pt.row, e1, List.length_append, List.length_cons, List.length_nil]; try rfl))
  · simp (maxSteps:=500000) only [↓vp, vv, ↓reduceIte, simprocAttr, c41_3, T2, T1, selI, selText, selPick, selName, ho, WrF, WrH]
    intro a1 v hv a2 t ht
    exact fin a2 1 n.nodes n.ports 1 n.sts v t s s.points.length (Nat.le_refl _) hpt (by omega) rfl (by omega) _ (weak_eq [] [i, (i.1 + 1, 3), (i.1 + 1, 4), (i.1 + 1, 6), (i.1 + 1, 7), (i.1 + 1, 12), (i.1 + 1, 17), (i.1 + 1, 22), (i.1 + 1, 37)] (WrF i kn []) (by simp (maxSteps:=500000) only [↓vp, vv, ↓reduceIte, simprocAttr, coverS, WrF, WrH, sE, nmRow, Seg.row, Port.row, Stn.row, Pt.row]) (by simp (maxSteps:=500000) only [↓vp, vv, ↓reduceIte, simprocAttr, refsF, WrF, WrH, sE, nmRow, Seg.row, Port.row, Stn.row, Pt.row]) (by simp (maxSteps:=500000) only [↓vp, vv, ↓reduceIte, simprocAttr, WrF, WrH, sE, nmRow, Seg.row, Port.row, Stn.row, Pt.row]) (by simp) (by simp (maxSteps:=500000) only [↓vp, vv, ↓reduceIte, simprocAttr, WrF, WrH, sE, nmRow, Seg.row, Port.row, Stn.row, Pt.row]; try rfl))
  · simp (maxSteps:=500000) only [↓vp, vv, ↓reduceIte, simprocAttr, c41_3, T2, T1, selI, selText, selPick, selName, ho, WrF, WrH]
    rw [vc_loop]
    refine ⟨fun k st => ∃ (a : SA L) (g : Nat) (nodes : List ByteArray), nodes.length + k = 26 ∧ st = ⟨fr (WrF i kn []), WrH i L a.1 g nodes n.segs n.ports 1 n.sts n.vap n.set s s.points.length⟩, ⟨26 - n.nodes.length, _, (weak_eq [] [i, (i.1 + 1, 3), (i.1 + 1, 4), (i.1 + 1, 6), (i.1 + 1, 7), (i.1 + 1, 12), (i.1 + 1, 17), (i.1 + 1, 22), (i.1 + 1, 37)] (WrF i kn []) (by simp (maxSteps:=500000) only [↓vp, vv, ↓reduceIte, simprocAttr, coverS, WrF, WrH, sE, nmRow, Seg.row, Port.row, Stn.row, Pt.row]) (by simp (maxSteps:=500000) only [↓vp, vv, ↓reduceIte, simprocAttr, refsF, WrF, WrH, sE, nmRow, Seg.row, Port.row, Stn.row, Pt.row]) (by simp (maxSteps:=500000) only [↓vp, vv, ↓reduceIte, simprocAttr, WrF, WrH, sE, nmRow, Seg.row, Port.row, Stn.row, Pt.row]) (by simp) (by simp (maxSteps:=500000) only [↓vp, vv, ↓reduceIte, simprocAttr, WrF, WrH, sE, nmRow, Seg.row, Port.row, Stn.row, Pt.row]; try rfl)), ⟨at', ho⟩, 1, n.nodes, by omega, rfl⟩, ?_⟩
    rintro m st ⟨a, g, nodes, hm, rfl⟩
    have o1 := a.2
    simp (maxSteps:=500000) only [↓vp, vv, ↓reduceIte, simprocAttr, c41_2, c41_1, T2, T1, selI, selText, selPick, selName, o1, WrF, WrH]
    intro a1 b hb
    unfold NPost at hb
    have w1 : IntKind.i64.wrap (23 + b) = 23 + b := wrap_i (by omega)
    simp only [w1]
    split
    · have e1 : nodes.map nmRow ++ [[ds (nm1B ⟨#[121]⟩ nodes.length ++ nm1B ⟨#[]⟩ (IntKind.i64.wrap ((nodes.length : Int).tdiv 26)))]] = (nodes ++ [nm1B ⟨#[121]⟩ nodes.length ++ nm1B ⟨#[]⟩ (IntKind.i64.wrap ((nodes.length : Int).tdiv 26))]).map nmRow := by rw [List.map_append]; rfl
      refine ⟨by decide, by decide, ?_, ⟨by omega, by omega⟩, m - 1, _, by omega, (weak_eq [] [i, (i.1 + 1, 3), (i.1 + 1, 4), (i.1 + 1, 6), (i.1 + 1, 7), (i.1 + 1, 12), (i.1 + 1, 17), (i.1 + 1, 22), (i.1 + 1, 37)] (WrF i kn []) (by simp (maxSteps:=500000) only [↓vp, vv, ↓reduceIte, simprocAttr, coverS, WrF, WrH, sE, nmRow, Seg.row, Port.row, Stn.row, Pt.row, e1, List.length_append, List.length_cons, List.length_nil]) (by simp (maxSteps:=500000) only [↓vp, vv, ↓reduceIte, simprocAttr, refsF, WrF, WrH, sE, nmRow, Seg.row, Port.row, Stn.row, Pt.row, e1, List.length_append, List.length_cons, List.length_nil]) (by simp (maxSteps:=500000) only [↓vp, vv, ↓reduceIte, simprocAttr, WrF, WrH, sE, nmRow, Seg.row, Port.row, Stn.row, Pt.row, e1, List.length_append, List.length_cons, List.length_nil]) (by simp) (by simp (maxSteps:=500000) only [↓vp, vv, ↓reduceIte, simprocAttr, WrF, WrH, sE, nmRow, Seg.row, Port.row, Stn.row, Pt.row, e1, List.length_append, List.length_cons, List.length_nil]; try rfl)), a1, g + 1, nodes ++ [nm1B ⟨#[121]⟩ nodes.length ++ nm1B ⟨#[]⟩ (IntKind.i64.wrap ((nodes.length : Int).tdiv 26))], by simp; omega, rfl⟩
      rw [nm1B_size, nm1B_size]
      decide
    · exact fin a1 g nodes n.ports 1 n.sts n.vap n.set s s.points.length (Nat.le_refl _) hpt (by omega) rfl (by omega) _ (weak_eq [] [i, (i.1 + 1, 3), (i.1 + 1, 4), (i.1 + 1, 6), (i.1 + 1, 7), (i.1 + 1, 12), (i.1 + 1, 17), (i.1 + 1, 22), (i.1 + 1, 37)] (WrF i kn []) (by simp (maxSteps:=500000) only [↓vp, vv, ↓reduceIte, simprocAttr, coverS, WrF, WrH, sE, nmRow, Seg.row, Port.row, Stn.row, Pt.row]) (by simp (maxSteps:=500000) only [↓vp, vv, ↓reduceIte, simprocAttr, refsF, WrF, WrH, sE, nmRow, Seg.row, Port.row, Stn.row, Pt.row]) (by simp (maxSteps:=500000) only [↓vp, vv, ↓reduceIte, simprocAttr, WrF, WrH, sE, nmRow, Seg.row, Port.row, Stn.row, Pt.row]) (by simp) (by simp (maxSteps:=500000) only [↓vp, vv, ↓reduceIte, simprocAttr, WrF, WrH, sE, nmRow, Seg.row, Port.row, Stn.row, Pt.row]; try rfl))
set_option maxHeartbeats 16000000 in
theorem Wrong_c (n : Net) (hn : NetOk n) : SrcC Tryd.prog 41 [n.enc] (WrOk n) Net.enc := by
  intro i L at' nn ho
  obtain ⟨code, h1, h2⟩ := c41_ok
  refine callsA_of T2_ok mixed (N := fun t => (i.1 + 1, t)) Tryd.func41 h1 h2 r41_ok [i] false js_one js_one' (by simp [Tryd.f41]) ?_
  have hsl := hn.slen
  have hnl := hn.nlen
  have hql := hn.ports.len
  have htl := hn.sts.len
  have y1 : n.nodes.length * 16 ≤ 140737488355328 := by omega
  have y2 : n.nodes.length ≤ 4611686018427387904 := by omega
  have y3 : n.segs.length * 80 ≤ 140737488355328 := by omega
  have y4 : n.segs.length ≤ 4611686018427387904 := by omega
  have y5 : n.ports.length * 32 ≤ 140737488355328 := by omega
  have y6 : n.ports.length ≤ 4611686018427387904 := by omega
  have y7 : n.sts.length * 48 ≤ 140737488355328 := by omega
  have y8 : n.sts.length ≤ 4611686018427387904 := by omega
  simp (maxSteps:=500000) only [↓vp, vv, ↓reduceIte, simprocAttr, c41, T2, T1, selI, ho, Net.enc, nm_len, seg_len, port_len, stn_len, pt_len, y1, y2, y3, y4, y5, y6, y7, y8]
  refine ⟨⟨by omega, by omega⟩, fun a1 k hk => ?_⟩
  unfold NPost at hk
  obtain ⟨kn, rfl⟩ : ∃ kn : Nat, k = kn := ⟨k.toNat, by omega⟩
  have hkn : kn < n.segs.length := by omega
  have k0 := idx_nn kn
  have k1 : (kn : Int) < n.segs.length := by omega
  obtain ⟨s, hs⟩ : ∃ s, n.segs[kn] = s := ⟨_, rfl⟩
  have hsm : s ∈ n.segs := hs ▸ List.getElem_mem hkn
  have hg := at7 kn n.segs hkn
  rw [hs] at hg
  have hpt : s.points.length ≤ 8 := by
    obtain ⟨j, a, b, _, _, _, hk, _⟩ := hn.segs.mem hsm
    have := hk.len
    omega
  have z1 : s.points.length * 24 ≤ 140737488355328 := by omega
  have z2 : s.points.length ≤ 4611686018427387904 := by omega
  simp (maxSteps:=500000) only [↓vp, vv, ↓reduceIte, simprocAttr, T2, T1, selI, a1.2, Int.toNat_natCast, hkn, k0, k1, hg, seg_len, Seg.row, pt_len, z1, z2]
  intro a2 c hc
  unfold NPost at hc
  refine vc_wk (weak_eq [] [i, (i.1 + 1, 3), (i.1 + 1, 4), (i.1 + 1, 6), (i.1 + 1, 7), (i.1 + 1, 12), (i.1 + 1, 17), (i.1 + 1, 22), (i.1 + 1, 37)] (WrF i kn [(43, di c)]) (by simp (maxSteps:=500000) only [↓vp, vv, ↓reduceIte, simprocAttr, coverS, WrF, WrH, sE, nmRow, Seg.row, Port.row, Stn.row, Pt.row]) (by simp (maxSteps:=500000) only [↓vp, vv, ↓reduceIte, simprocAttr, refsF, WrF, WrH, sE, nmRow, Seg.row, Port.row, Stn.row, Pt.row]) (by simp (maxSteps:=500000) only [↓vp, vv, ↓reduceIte, simprocAttr, WrF, WrH, sE, nmRow, Seg.row, Port.row, Stn.row, Pt.row]) (by simp) (by simp (maxSteps:=500000) only [↓vp, vv, ↓reduceIte, simprocAttr, WrF, WrH, sE, nmRow, Seg.row, Port.row, Stn.row, Pt.row]; try rfl)) ?_
  exact wr_sw n hn i L a2.1 a2.2 kn hkn s hpt c (by omega)
end Go.Proofs.YtehmmnnmkapfeaaDoor
