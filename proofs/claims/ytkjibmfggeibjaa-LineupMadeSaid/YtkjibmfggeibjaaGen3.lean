
/- Segments out of a source. -/
import Derived.Test.YtkjibmfggeibjaaGen2
namespace Go.Proofs.Ytkjibmfggeibjaa
open Go
set_option linter.unusedVariables false
set_option linter.unusedSimpArgs false
set_option maxRecDepth 100000

structure Pt where
  at' : Int
  height : Int
  limit : Int
def Pt.row (p : Pt) : List D := [di p.at', di p.height, di p.limit]
structure Seg where
  name : ByteArray
  fr : Int
  to : Int
  cap : Int
  resist : Int
  wave : Int
  points : List Pt
def Seg.row (s : Seg) : List D := [ds s.name, di s.fr, di s.to, di s.cap, di s.resist, di s.wave, .sl (s.points.map Pt.row)]
def Seg.enc (s : Seg) : D := .agg s.row
def selPick : List D → Option (Prop × (Int → Prop))
  | [.sl rows] => match intsOf rows with
    | some ns => some (ns ≠ [] ∧ ns.length ≤ 2000, IsMem ns)
    | Option.none => Option.none
  | _ => Option.none
def selText : List D → Option (Prop × (ByteArray → Prop))
  | [.sl rows] => match strsOf rows with
    | some ns => some (ns ≠ [] ∧ ns.length ≤ 2000, IsMem ns)
    | Option.none => Option.none
  | _ => Option.none
def selRange : List D → Option (Prop × (Int → Prop))
  | [.v (.int .i64 a), .v (.int .i64 b)] => some ((InI a ∧ InI b) ∧ b - a < 9223372036854775807 ∧ -9223372036854775808 ≤ b - a, RPost a b)
  | _ => Option.none
def selName : List D → Option (Prop × D)
  | [.v (.string f), .v (.int .i64 n)] => some (f.size ≤ 1000, ds (nm1B f n))
  | _ => Option.none
def T2 : Tbl := tc 79 (rowSrc selPick di) (tc 98 (rowSrc selText ds) (tc 27 (rowSrc selRange di) (tc 80 (rowPu selName) T1)))
theorem T2_ok : TblOk Try.prog T2 := by
  refine tc_src f79_ok (fun args pre post h hp => ?_) (tc_src f98_ok (fun args pre post h hp => ?_) (tc_src f27_ok (fun args pre post h hp => ?_) (tc_pu f80_ok (fun args pre d h hp nn => ?_) T1_ok)))
  · unfold selPick at h
    split at h
    · split at h
      · rename_i ns hns
        cases h
        obtain ⟨h0, hl⟩ := hp
        rw [intsOf_eq hns]
        refine ⟨?_, Pick_c _ h0 hl⟩
        cases ns with
        | nil => exact absurd rfl h0
        | cons n ns => exact ⟨n, List.mem_cons_self ..⟩
      · cases h
    · cases h
  · unfold selText at h
    split at h
    · split at h
      · rename_i ns hns
        cases h
        obtain ⟨h0, hl⟩ := hp
        rw [strsOf_eq hns]
        refine ⟨?_, Text_c _ h0 hl⟩
        cases ns with
        | nil => exact absurd rfl h0
        | cons n ns => exact ⟨n, List.mem_cons_self ..⟩
      · cases h
    · cases h
  · unfold selRange at h
    split at h <;> cases h
    obtain ⟨⟨h1, h2⟩, h3, h4⟩ := hp
    exact ⟨⟨_, Int.le_refl _, fun h => h, fun _ => rfl⟩, Range_c _ _ h1 h2 h3 h4⟩
  · unfold selName at h
    split at h <;> cases h
    exact name_c _ _ hp nn
theorem sz1 (b : UInt8) : ByteArray.size { data := #[b] } = 1 := rfl
def SegHp (i : Nm) (L : List (List D)) (at' : Int) (nm : ByteArray) (a b cap res wav : Int) (g : Nat) (pts : List Pt) : Hp :=
  (((Hp.none.put (i.1 + 1, 41) ⟨g, 3, pts.map Pt.row⟩).put (i.1 + 1, 9) ⟨0, 7, [[ds nm, di a, di b, di cap, di res, di wav, .own (i.1 + 1, 41) g 0 pts.length]]⟩).put (i.1 + 1, 8) ⟨0, 7, [[ds ⟨#[]⟩, di 0, di 0, di 0, di 0, di 0, .mt]]⟩).put i (sE L at')
def SegFr (i : Nm) (lim atv : Int) : List (Nat × D) := [(0, .ptr i 0 0 0), (8, .ptr (i.1 + 1, 8) 0 0 0), (9, .ptr (i.1 + 1, 9) 0 0 0), (10, di lim), (11, di atv)]
structure PtsOk (cap lim atv : Int) (pts : List Pt) : Prop where
  asc : pts.Pairwise (fun a b => a.at' < b.at')
  le : ∀ p ∈ pts, p.at' ≤ atv ∧ -500 ≤ p.height ∧ p.height ≤ 5000 ∧ 0 ≤ p.limit ∧ p.limit ≤ 100000000
  hd : pts.head?.map (·.at') = some 0
  lo : 0 ≤ atv
  hi : atv < cap
theorem PtsOk.more {cap lim atv : Int} {pts : List Pt} (h : PtsOk cap lim atv pts) (x : Int) (hx : atv < x) (hc : x < cap) (z l : Int) (hz : -500 ≤ z ∧ z ≤ 5000) (hl : 0 ≤ l ∧ l ≤ 100000000) : PtsOk cap lim x (pts ++ [⟨x, z, l⟩]) := by
  refine ⟨List.pairwise_append.2 ⟨h.asc, List.pairwise_singleton _ _, fun a ha b hb => ?_⟩, fun p hp => ?_, ?_, by have := h.lo; omega, hc⟩
  · rw [List.mem_singleton.1 hb]
    have := (h.le a ha).1
    dsimp only; omega
  · rcases List.mem_append.1 hp with hp | hp
    · have := h.le p hp; omega
    · rw [List.mem_singleton.1 hp]
      dsimp only; omega
  · cases pts with
    | nil => have := h.hd; cases this
    | cons p ps => exact h.hd
/-- The points of a segment of this capacity. -/
structure PtsEnd (cap : Int) (pts : List Pt) : Prop where
  asc : pts.Pairwise (fun a b => a.at' < b.at')
  le : ∀ p ∈ pts, -500 ≤ p.height ∧ p.height ≤ 5000 ∧ 0 ≤ p.limit ∧ p.limit ≤ 100000000
  hd : pts.head?.map (·.at') = some 0
  last : pts.getLast?.map (·.at') = some cap
theorem PtsOk.fin {cap lim atv : Int} {pts : List Pt} (h : PtsOk cap lim atv pts) (z l : Int) (hz : -500 ≤ z ∧ z ≤ 5000) (hl : 0 ≤ l ∧ l ≤ 100000000) : PtsEnd cap (pts ++ [⟨cap, z, l⟩]) := by
  refine ⟨List.pairwise_append.2 ⟨h.asc, List.pairwise_singleton _ _, fun a ha b hb => ?_⟩, fun p hp => ?_, ?_, by simp⟩
  · rw [List.mem_singleton.1 hb]
    have := (h.le a ha).1
    have := h.hi
    dsimp only; omega
  · rcases List.mem_append.1 hp with hp | hp
    · have := h.le p hp; omega
    · rw [List.mem_singleton.1 hp]
      dsimp only; omega
  · cases pts with
    | nil => have := h.hd; cases this
    | cons p ps => exact h.hd
structure SegOk (k fr to : Int) (s : Seg) : Prop where
  name : s.name = nm1B ⟨#[103]⟩ k
  ends : s.fr = fr ∧ s.to = to ∨ s.fr = to ∧ s.to = fr
  cap : 1 ≤ s.cap ∧ s.cap ≤ 1000
  res : 0 ≤ s.resist ∧ s.resist ≤ 1000
  wav : 0 ≤ s.wave ∧ s.wave ≤ 100000
  len : 2 ≤ s.points.length ∧ s.points.length ≤ 8
  pts : PtsEnd s.cap s.points
def SegI (i : Nm) (L : List (List D)) (nm : ByteArray) (a b cap res wav lim : Int) : Nat → St → Prop := fun k s => ∃ at' atv g pts, SrcOk L at' ∧ PtsOk cap lim atv pts ∧ k + pts.length = 7 ∧ 1 ≤ pts.length ∧ s = ⟨fr (SegFr i lim atv), SegHp i L at' nm a b cap res wav g pts⟩
theorem seg_fin (i : Nm) (L : List (List D)) (at' : Int) (ho : SrcOk L at') (k a b f t : Int) (he : f = a ∧ t = b ∨ f = b ∧ t = a) (cap res wav lim atv : Int) (hcap : 1 ≤ cap ∧ cap ≤ 1000) (hres : 0 ≤ res ∧ res ≤ 1000) (hwav : 0 ≤ wav ∧ wav ≤ 100000) (hlim : 0 ≤ lim ∧ lim ≤ 100000000)
    (pts : List Pt) (hp : PtsOk cap lim atv pts) (h1 : 1 ≤ pts.length ∧ pts.length ≤ 7) (z : Int) (hz : RPost (-5) 30 z) : SrcR i L (SegOk k a b) Seg.enc (D.agg [ds (nm1B ⟨#[103]⟩ k), di f, di t, di cap, di res, di wav, D.sl (List.map Pt.row pts ++ [[D.v (.int .i64 cap), D.v (.int .i64 z), D.v (.int .i64 lim)]])]) (Hp.none.put i ⟨0, 2, [[.sl L, di at']]⟩) := by
  unfold RPost at hz
  refine ⟨at', ⟨nm1B ⟨#[103]⟩ k, f, t, cap, res, wav, pts ++ [⟨cap, z, lim⟩]⟩, ho, ⟨rfl, he, hcap, hres, hwav, ?_, hp.fin z lim ?_ hlim⟩, ?_, rfl⟩
  · simp; omega
  · omega
  · simp [Seg.enc, Seg.row, Pt.row]
set_option maxHeartbeats 4000000 in
theorem Seg_a (i : Nm) (L : List (List D)) (at' : Int) (ho : SrcOk L at') (k a b f t : Int) (he : f = a ∧ t = b ∨ f = b ∧ t = a) (F : Fr) (h0 : F 0 = .ptr i 0 0 0) (h1 : F 1 = di k) (h2 : F 2 = di f) (h3 : F 3 = di t) (h8 : F 8 = .ptr (i.1 + 1, 8) 0 0 0) :
    vc T2 (fun t => (i.1 + 1, t)) [i] c81_5 (finQ r81 [i] false (SrcR i L (SegOk k a b) Seg.enc)) ⟨F, (Hp.none.put i (sE L at')).put (i.1 + 1, 8) ⟨0, 7, [[ds ⟨#[]⟩, di 0, di 0, di 0, di 0, di 0, .mt]]⟩⟩ := by
  simp (config := { maxSteps := 500000 }) only [↓vp, vv, implies_true, forall_const, undef, InI, ↓reduceIte, simprocAttr, c81_5, T2, T1, selI, selPick, selRange, selName, ho, h0, h1, h2, h3, h8, sz1]
  rintro ⟨at1, o1⟩ cap hcap ⟨at2, o2⟩ res hres ⟨at3, o3⟩ wav hwav ⟨at4, o4⟩ lim hlim ⟨at5, o5⟩ z hz
  simp [IsMem] at hcap hres hwav hlim
  have hcap' : 1 ≤ cap ∧ cap ≤ 1000 := by omega
  have hlim' : 0 ≤ lim ∧ lim ≤ 100000000 := by omega
  have hres' : 0 ≤ res ∧ res ≤ 1000 := by omega
  have hwav' : 0 ≤ wav ∧ wav ≤ 100000 := by omega
  unfold RPost at hz
  rw [vc_loop]
  refine ⟨SegI i L (nm1B ⟨#[103]⟩ k) f t cap res wav lim, ⟨6, _, (weak_eq [] [i, (i.1 + 1, 8), (i.1 + 1, 9), (i.1 + 1, 41)] (SegFr i lim 0) (by simp (config := { maxSteps := 500000 }) only [↓vp, vv, implies_true, forall_const, undef, InI, ↓reduceIte, simprocAttr, coverS, SegFr, h0, h8]) (by simp (config := { maxSteps := 500000 }) only [↓vp, vv, implies_true, forall_const, undef, InI, ↓reduceIte, simprocAttr, refsF, SegFr, h0, h8]) (by simp (config := { maxSteps := 500000 }) only [↓vp, vv, implies_true, forall_const, undef, InI, ↓reduceIte, simprocAttr, SegFr, h0, h8]) (by simp) (by simp (config := { maxSteps := 500000 }) only [↓vp, vv, implies_true, forall_const, undef, InI, ↓reduceIte, simprocAttr, SegFr, h0, h8]; try rfl)), ⟨at5, 0, 0, [⟨0, z, lim⟩], o5, ⟨List.pairwise_singleton _ _, by simp; omega, rfl, by omega, by omega⟩, rfl, by simp, rfl⟩⟩, ?_⟩
  rintro m s ⟨at6, atv, g, pts, o6, hp, hk, hk1, rfl⟩
  have hpl := hp.lo
  have hph := hp.hi
  by_cases hlt : (pts.length : Int) < 7
  · simp (config := { maxSteps := 500000 }) only [↓vp, vv, implies_true, forall_const, undef, InI, ↓reduceIte, simprocAttr, c81, r81, c81_1, c81_2, c81_3, c81_4, c81_5, T2, T1, selI, selPick, selRange, selName, o6, SegHp, SegFr, hlt, Pt.row]
    rintro ⟨at7, o7⟩ x hx
    split
    · rintro ⟨at8, o8⟩ y hy
      unfold RPost at hy
      have w1 : IntKind.i64.wrap (atv + y) = atv + y := wrap_i (by omega)
      rw [w1]
      split
      · rintro ⟨at9, o9⟩ z' hz'
        exact ⟨⟨by omega, by omega⟩, seg_fin i L at9 o9 k a b f t he cap res wav lim atv hcap' hres' hwav' hlim' pts hp (by omega) z' hz'⟩
      · rintro ⟨at9, o9⟩ u hu ⟨at10, o10⟩ v hv ⟨at11, o11⟩ q hq
        unfold RPost at hu
        simp [IsMem] at hv
        unfold NPost at hq
        have w2 : IntKind.i64.wrap (u * v) = u * v := wrap_i (by rcases hv with rfl | rfl | rfl <;> omega)
        have w3 : IntKind.i64.wrap (q * 1000) = q * 1000 := wrap_i (by omega)
        have w4 : IntKind.i64.wrap (lim - q * 1000) = lim - q * 1000 := wrap_i (by omega)
        simp only [w2, w3, w4]
        refine ⟨⟨by omega, by omega⟩, m - 1, _, by omega, (weak_eq [] [i, (i.1 + 1, 8), (i.1 + 1, 9), (i.1 + 1, 41)] (SegFr i lim (atv + y)) (by simp (config := { maxSteps := 500000 }) only [↓vp, vv, implies_true, forall_const, undef, InI, ↓reduceIte, simprocAttr, coverS, SegFr, Pt.row]) (by simp (config := { maxSteps := 500000 }) only [↓vp, vv, implies_true, forall_const, undef, InI, ↓reduceIte, simprocAttr, refsF, SegFr, Pt.row]) (by simp (config := { maxSteps := 500000 }) only [↓vp, vv, implies_true, forall_const, undef, InI, ↓reduceIte, simprocAttr, SegFr, Pt.row]) (by simp) (by simp (config := { maxSteps := 500000 }) only [↓vp, vv, implies_true, forall_const, undef, InI, ↓reduceIte, simprocAttr, SegFr, Pt.row]; try rfl)), at11, atv + y, g + 1, pts ++ [⟨atv + y, u * v, lim - q * 1000⟩], o11, hp.more (atv + y) (by omega) (by omega) _ _ (by rcases hv with rfl | rfl | rfl <;> omega) (by omega), by simp; omega, by simp, ?_⟩
        simp [SegHp, Pt.row, sE]
    · rintro ⟨at9, o9⟩ z' hz'
      exact ⟨⟨by omega, by omega⟩, seg_fin i L at9 o9 k a b f t he cap res wav lim atv hcap' hres' hwav' hlim' pts hp (by omega) z' hz'⟩
  · simp (config := { maxSteps := 500000 }) only [↓vp, vv, implies_true, forall_const, undef, InI, ↓reduceIte, simprocAttr, c81, r81, c81_1, c81_2, c81_3, c81_4, c81_5, T2, T1, selI, selPick, selRange, selName, o6, SegHp, SegFr, hlt, Pt.row]
    rintro ⟨at9, o9⟩ z' hz'
    exact ⟨⟨by omega, by omega⟩, seg_fin i L at9 o9 k a b f t he cap res wav lim atv hcap' hres' hwav' hlim' pts hp (by omega) z' hz'⟩
theorem Seg_b (i : Nm) (L : List (List D)) (at' : Int) (ho : SrcOk L at') (k a b f t : Int) (he : f = a ∧ t = b ∨ f = b ∧ t = a) :
    vc T2 (fun t => (i.1 + 1, t)) [i] c81_5 (finQ r81 [i] false (SrcR i L (SegOk k a b) Seg.enc)) ⟨fr [(0, .ptr i 0 0 0), (1, di k), (2, di f), (3, di t), (8, .ptr (i.1 + 1, 8) 0 0 0)], (Hp.none.put (i.1 + 1, 8) ⟨0, 7, [[ds ⟨#[]⟩, di 0, di 0, di 0, di 0, di 0, .mt]]⟩).put i (sE L at')⟩ := by
  rw [show (Hp.none.put (i.1 + 1, 8) ⟨0, 7, [[ds ⟨#[]⟩, di 0, di 0, di 0, di 0, di 0, .mt]]⟩).put i (sE L at') = (Hp.none.put i (sE L at')).put (i.1 + 1, 8) ⟨0, 7, [[ds ⟨#[]⟩, di 0, di 0, di 0, di 0, di 0, .mt]]⟩ from by
    funext j
    simp only [hput_at]
    split
    · rename_i h; subst h; simp only [nm1, if_false]
    · rfl]
  exact Seg_a i L at' ho k a b f t he _ rfl rfl rfl rfl rfl
set_option maxHeartbeats 4000000 in
theorem Segment_c (k a b : Int) (hk : InI k) : SrcC Try.prog 81 [di k, di a, di b] (SegOk k a b) Seg.enc := by
  intro i L at' nn ho
  obtain ⟨code, h1, h2⟩ := c81_ok
  refine callsA_of T2_ok mixed (N := fun t => (i.1 + 1, t)) Try.func81 h1 h2 r81_ok [i] false js_one js_one' (by simp [Try.f81]) ?_
  simp (config := { maxSteps := 500000 }) only [↓vp, vv, implies_true, forall_const, undef, InI, ↓reduceIte, simprocAttr, c81, T2, T1, selI, selPick, selRange, selName, ho]
  rintro ⟨at1, o1⟩ x hx
  split
  · refine vc_wk (weak_eq [] [i, (i.1 + 1, 8)] [(0, .ptr i 0 0 0), (1, di k), (2, di b), (3, di a), (8, .ptr (i.1 + 1, 8) 0 0 0)] (by simp (config := { maxSteps := 500000 }) only [↓vp, vv, implies_true, forall_const, undef, InI, ↓reduceIte, simprocAttr, coverS, Pt.row]) (by simp (config := { maxSteps := 500000 }) only [↓vp, vv, implies_true, forall_const, undef, InI, ↓reduceIte, simprocAttr, refsF, Pt.row]) (by simp (config := { maxSteps := 500000 }) only [↓vp, vv, implies_true, forall_const, undef, InI, ↓reduceIte, simprocAttr, Pt.row]) (by simp) (by simp (config := { maxSteps := 500000 }) only [↓vp, vv, implies_true, forall_const, undef, InI, ↓reduceIte, simprocAttr, Pt.row]; try rfl)) ?_
    exact Seg_b i L at1 o1 k a b b a (.inr ⟨rfl, rfl⟩)
  · refine vc_wk (weak_eq [] [i, (i.1 + 1, 8)] [(0, .ptr i 0 0 0), (1, di k), (2, di a), (3, di b), (8, .ptr (i.1 + 1, 8) 0 0 0)] (by simp (config := { maxSteps := 500000 }) only [↓vp, vv, implies_true, forall_const, undef, InI, ↓reduceIte, simprocAttr, coverS, Pt.row]) (by simp (config := { maxSteps := 500000 }) only [↓vp, vv, implies_true, forall_const, undef, InI, ↓reduceIte, simprocAttr, refsF, Pt.row]) (by simp (config := { maxSteps := 500000 }) only [↓vp, vv, implies_true, forall_const, undef, InI, ↓reduceIte, simprocAttr, Pt.row]) (by simp) (by simp (config := { maxSteps := 500000 }) only [↓vp, vv, implies_true, forall_const, undef, InI, ↓reduceIte, simprocAttr, Pt.row]; try rfl)) ?_
    exact Seg_b i L at1 o1 k a b a b (.inl ⟨rfl, rfl⟩)
end Go.Proofs.Ytkjibmfggeibjaa
