
/- RouteWays: the walk. -/
import Derived.Test.YtemkjjlpggmolaaRtB
namespace Go.Proofs.Ytemkjjlpggmolaa
open Go
set_option linter.unusedVariables false
set_option linter.unusedSimpArgs false
set_option maxRecDepth 100000

def selInI : List D → Option (Prop × D)
  | [.sl rows, .v (.int .i64 x)] => match lsOf intOf1 rows with
    | some l => some (l.length ≤ 1000000, db (l.contains x))
    | _ => Option.none
  | _ => Option.none
theorem tc_ini {T : Tbl} (hT : TblOk Try.prog T) : TblOk Try.prog (tc 63 (rowPu selInI) T) :=
  tc_pu f63_ok (fun args pre d hs hp nn => by
    unfold selInI at hs
    split at hs
    · split at hs
      · rename_i e1
        cases hs
        rw [lsOf_eq (fun r x => intOf1_eq) e1]
        exact In_c _ hp _ nn
      · cases hs
    · cases hs) hT
theorem tc_re {T : Tbl} (hT : TblOk Try.prog T) : TblOk Try.prog (tc 62 (rowPu (selN1 RePre fun n c k => .tup [.sl ((rL n c k.toNat).map nRow), di 0])) T) := tc_n1 f62_ok (fun n c k h nn => by
  have := Reach_c n c h.v k.toNat (by have := h.a; omega) nn
  rw [show ((k.toNat : Nat) : Int) = k by have := h.a; omega] at this
  exact this) hT
def TRw (P : Program) : Tbl := tc 62 (rowPu (selN1 RePre fun n c k => .tup [.sl ((rL n c k.toNat).map nRow), di 0])) (tc 63 (rowPu selInI) (tc 64 (rowPu selEn) (TRl P)))
theorem TRw_ok : TblOk Try.prog (TRw Try.prog) := tc_re (tc_ini (tc_en f64_ok REnds_c TRl_ok))
/-- The ways of two nodes. -/
theorem way_cases {n : Net} {c : List Bool} (h : RtV n c) {a b : Nat} (ha : a < n.nodes.length) (hb : b < n.nodes.length) : ∃ (w : List (Int × Bool)) (e : Int) (r : List Int), wayD n c a b = .tup [.sl (w.map hRow), di e] ∧ w.length ≤ 24 ∧ (rL n c a).map nRow = r.map iRow ∧ r.length ≤ 24 ∧ ((e = 11 ∧ w = [] ∧ r.contains (b : Int) = false) ∨ (e = 0 ∧ w = wayW n c a b ∧ r.contains (b : Int) = true ∧ 0 ≤ (hopsL n c b).getD a 0)) := by
  have hlt := (h.ok.isD hb).lt_N h.ok.s ha
  have hnl := h.v.nl
  have hr : (rL n c a).map nRow = ((rL n c a).map fun k : Nat => (k : Int)).map iRow := by rw [List.map_map]; rfl
  have hrl : ((rL n c a).map fun k : Nat => (k : Int)).length ≤ 24 := by
    rw [List.length_map]
    unfold rL
    have := List.length_filter_le (fun j => decide (0 ≤ (hopsL n c a).getD j 0)) (List.range n.nodes.length)
    rw [List.length_range] at this
    omega
  have hco : ((rL n c a).map fun k : Nat => (k : Int)).contains (b : Int) = decide (0 ≤ (hopsL n c b).getD a 0) := by
    rw [Bool.eq_iff_iff, List.contains_iff_mem, List.mem_map, decide_eq_true_eq, h.ok.jn ha hb]
    refine ⟨fun ⟨k, hk, e⟩ => ?_, fun hJ => ⟨b, (h.ok.mem ha).2 ⟨hb, hJ⟩, rfl⟩⟩
    have : k = b := by omega
    subst this
    exact ((h.ok.mem ha).1 hk).2
  unfold wayD
  by_cases h0 : (hopsL n c b).getD a 0 < 0
  · rw [if_pos h0]
    exact ⟨[], 11, _, rfl, by simp, hr, hrl, .inl ⟨rfl, rfl, by rw [hco, decide_eq_false (by omega)]⟩⟩
  · rw [if_neg h0]
    have w1 := h.ok.way ha hb (by omega)
    exact ⟨_, 0, _, rfl, by omega, hr, hrl, .inr ⟨rfl, rfl, by rw [hco, decide_eq_true (by omega)], by omega⟩⟩
theorem way_next {n : Net} {c : List Bool} (h : RtV n c) {a b j : Nat} (ha : a < n.nodes.length) (hb : b < n.nodes.length) (h0 : 0 ≤ (hopsL n c b).getD a 0) (hj : j < n.segs.length) (hc : c[j]? = some false) (ht : n.segs[j].fr = a ∨ n.segs[j].to = a) :
    ∃ (x : Nat) (v : List (Int × Bool)), n.segs[j].fr + n.segs[j].to - a = x ∧ x < n.nodes.length ∧ wayD n c x b = .tup [.sl (v.map hRow), di 0] ∧ v.length ≤ 24 ∧ (wayW n c a b).length ≤ v.length + 1 := by
  have hnl := h.v.nl
  have hl := h.l
  have hcj : j < c.length := by omega
  have hz := zip_get (l := n.segs) (m := c) hj hcj
  rw [List.getElem?_eq_getElem hcj] at hc
  have hc' : c[j] = false := by injection hc
  rw [hc'] at hz
  have hm := List.mem_of_getElem? hz
  obtain ⟨⟨s1, s2⟩, s3, s4⟩ := h.ok.s _ hm
  have hw := (h.ok.way ha hb h0).2
  dsimp only at s1 s2 s3 s4
  have ex : ∃ (x : Nat) (k : Bool), n.segs[j].fr + n.segs[j].to - a = x ∧ ovr (n.segs[j], false) a = some (x, k) := by
    unfold ovr
    dsimp only
    rw [if_neg (by simp)]
    by_cases e : n.segs[j].fr = a
    · rw [if_pos e]
      exact ⟨_, _, by omega, rfl⟩
    · rw [if_neg e, if_pos (by omega)]
      exact ⟨_, _, by omega, rfl⟩
  obtain ⟨x, k, e1, e2⟩ := ex
  have hx := (ovr_lt (h.ok.s _ hm) e2).1
  have near := h.ok.near hm hb e2 h0
  have hlt := (h.ok.isD hb).lt_N h.ok.s hx
  have hv := (h.ok.way hx hb near.1).2
  refine ⟨x, wayW n c x b, e1, hx, ?_, by omega, by omega⟩
  unfold wayD
  rw [if_neg (by omega)]
def RwF (c : List Bool) (a b : Nat) (w : List (Int × Bool)) (l : List (Nat × D)) : List (Nat × D) := (8, .ptr (0, 8) 0 0 0) :: (9, .sl (c.map bRow)) :: (10, di a) :: (11, di b) :: (12, .sl (w.map hRow)) :: l
def RwH (n : Net) : Hp := Hp.none.put (0, 8) ⟨0, 6, [netD n]⟩
def RwQ : Ex → St → Prop := finQ r12 [] false (Pu (db true) Hp.none)
theorem bRow_n (c : List Bool) (k : Nat) (h : k < c.length) : (c.map bRow).getD k [] = bRow (c.getD k false) := by rw [getD_map bRow c k h, List.getD_eq_getElem?_getD, List.getElem?_eq_getElem h]; rfl
set_option maxHeartbeats 8000000 in
theorem rw_1 (n : Net) (c : List Bool) (h : RtV n c) (a b : Nat) (ha : a < n.nodes.length) (hb : b < n.nodes.length) (h0 : 0 ≤ (hopsL n c b).getD a 0) (F : Fr) (H : Hp) (hwk : Weak [] ⟨F, H⟩ ⟨fr (RwF c a b (wayW n c a b) []), RwH n⟩)
    (next : ∀ F H, Weak [] ⟨F, H⟩ ⟨fr (RwF c a b (wayW n c a b) []), RwH n⟩ → vc (TRw Try.prog) (fun t => (0, t)) [] (.weak c12_11) RwQ ⟨F, H⟩) : vc (TRw Try.prog) (fun t => (0, t)) [] (.weak c12_13) RwQ ⟨F, H⟩ := by
  refine vc_wk hwk ?_
  have hw := h.ok.way ha hb h0
  have hlt := (h.ok.isD hb).lt_N h.ok.s ha
  have hnl := h.v.nl
  have hl := h.l
  have hn1 : netOf1 [D.sl (n.nodes.map nmRow), .sl (n.segs.map Seg.row), .sl (n.ports.map Port.row), .sl (n.sts.map Stn.row), di n.vap, di n.set] = some n := netOf1_row n
  have hkn := hw.1.known h.ok
  have hpath := hw.1
  have hwl : (wayW n c a b).length ≤ 24 := by have := hw.2; omega
  generalize wayW n c a b = w at *
  simp (config := { maxSteps := 500000 }) only [↓vp, vv, implies_true, forall_const, undef, InI, ↓reduceIte, simprocAttr, c12_13, RwF, RwH, netD]
  rw [vc_loop]
  refine ⟨fun k st => ∃ j v : Nat, j + k = w.length ∧ WayP (n.segs.zip c) v (w.drop j) b ∧ st = ⟨fr (RwF c a b w [(16, di v), (79, .sl (w.map hRow)), (80, di w.length), (81, di j)]), RwH n⟩, ⟨w.length, _, (weak_eq [] [(0, 8)] (RwF c a b w [(16, di a), (79, .sl (w.map hRow)), (80, di w.length), (81, di 0)]) (by simp (config := { maxSteps := 500000 }) only [↓vp, vv, implies_true, forall_const, undef, InI, ↓reduceIte, simprocAttr, coverS, RwF, RwH, netD]) (by simp (config := { maxSteps := 500000 }) only [↓vp, vv, implies_true, forall_const, undef, InI, ↓reduceIte, simprocAttr, refsF, RwF, RwH, netD]) (by simp (config := { maxSteps := 500000 }) only [↓vp, vv, implies_true, forall_const, undef, InI, ↓reduceIte, simprocAttr, RwF, RwH, netD]) (by simp) (by simp (config := { maxSteps := 500000 }) only [↓vp, vv, implies_true, forall_const, undef, InI, ↓reduceIte, simprocAttr, RwF, RwH, netD]; try rfl)), 0, a, by omega, hpath, rfl⟩, ?_⟩
  rintro k st ⟨j, v, hjk, hp, rfl⟩
  by_cases hj : j < w.length
  · have hj' : (j : Int) < w.length := by omega
    have hjn := idx_nn j
    have w1 := idx_next (j := j) (by omega)
    have gw := hRow_g w j hj
    obtain ⟨_, hin, hcl⟩ := hkn w[j] (List.getElem_mem hj)
    rw [List.drop_eq_getElem_cons hj] at hp
    obtain ⟨q, x, u, bk, hy, hq, eo, hr⟩ := hp.inv
    obtain ⟨q1, q2, he, hu, hva⟩ := h.ok.hop hq eo
    rw [hy] at gw hin hcl
    dsimp only at hcl
    rw [Int.toNat_natCast] at hcl
    have qc : q < c.length := by omega
    have qc' : (q : Int) < c.length := by omega
    have q1' : (q : Int) < n.segs.length := by omega
    have qn := idx_nn q
    have gc := bRow_n c q qc
    rw [hcl] at gc
    have n1 : decide ((q : Int) < 0) = false := decide_eq_false (by omega)
    have n2 : decide ((n.segs.length : Int) ≤ q) = false := decide_eq_false (by omega)
    simp (config := { maxSteps := 500000 }) only [↓vp, vv, implies_true, forall_const, undef, InI, ↓reduceIte, simprocAttr, c12_5, c12_4, c12_3, c12_2, c12_1, TRw, selEn, RwF, RwH, netD, hj', hjn, Int.toNat_natCast, gw, hRow, n1, n2, qc, qc', qn, gc, bRow, hn1, hin, he, bne_self_eq_false, w1]
    exact ⟨k - 1, _, by omega, (weak_eq [] [(0, 8)] (RwF c a b w [(16, di u), (79, .sl (w.map hRow)), (80, di w.length), (81, di (j + 1 : Nat))]) (by simp (config := { maxSteps := 500000 }) only [↓vp, vv, implies_true, forall_const, undef, InI, ↓reduceIte, simprocAttr, coverS, RwF, RwH, netD, w1]) (by simp (config := { maxSteps := 500000 }) only [↓vp, vv, implies_true, forall_const, undef, InI, ↓reduceIte, simprocAttr, refsF, RwF, RwH, netD, w1]) (by simp (config := { maxSteps := 500000 }) only [↓vp, vv, implies_true, forall_const, undef, InI, ↓reduceIte, simprocAttr, RwF, RwH, netD, w1]) (by simp) (by simp (config := { maxSteps := 500000 }) only [↓vp, vv, implies_true, forall_const, undef, InI, ↓reduceIte, simprocAttr, RwF, RwH, netD, w1]; try rfl)), j + 1, u, by omega, hr, rfl⟩
  · have hj' : ¬ (j : Int) < w.length := by omega
    rw [List.drop_of_length_le (by omega)] at hp
    have hvb := hp.end'
    subst hvb
    simp (config := { maxSteps := 500000 }) only [↓vp, vv, implies_true, forall_const, undef, InI, ↓reduceIte, simprocAttr, c12_5, c12_12, RwF, RwH, netD, hj', bne_self_eq_false]
    exact next _ _ (weak_eq [] [(0, 8)] (RwF c a v w []) (by simp (config := { maxSteps := 500000 }) only [↓vp, vv, implies_true, forall_const, undef, InI, ↓reduceIte, simprocAttr, coverS, RwF, RwH, netD]) (by simp (config := { maxSteps := 500000 }) only [↓vp, vv, implies_true, forall_const, undef, InI, ↓reduceIte, simprocAttr, refsF, RwF, RwH, netD]) (by simp (config := { maxSteps := 500000 }) only [↓vp, vv, implies_true, forall_const, undef, InI, ↓reduceIte, simprocAttr, RwF, RwH, netD]) (by simp) (by simp (config := { maxSteps := 500000 }) only [↓vp, vv, implies_true, forall_const, undef, InI, ↓reduceIte, simprocAttr, RwF, RwH, netD]; try rfl))
set_option maxHeartbeats 8000000 in
theorem rw_2 (n : Net) (c : List Bool) (h : RtV n c) (a b : Nat) (ha : a < n.nodes.length) (hb : b < n.nodes.length) (h0 : 0 ≤ (hopsL n c b).getD a 0) (F : Fr) (H : Hp) (hwk : Weak [] ⟨F, H⟩ ⟨fr (RwF c a b (wayW n c a b) []), RwH n⟩) : vc (TRw Try.prog) (fun t => (0, t)) [] (.weak c12_11) RwQ ⟨F, H⟩ := by
  refine vc_wk hwk ?_
  have hnx := fun j (hj : j < n.segs.length) hc ht => way_next h ha hb h0 (j := j) hj hc ht
  have hL := len_rt h ha hb h0
  have hwl : (wayW n c a b).length ≤ 24 := by
    have := (h.ok.way ha hb h0).2
    have hlt := (h.ok.isD hb).lt_N h.ok.s ha
    have hnl := h.v.nl
    omega
  have hl := h.l
  have hz := h.z
  have hn1 : netOf1 [D.sl (n.nodes.map nmRow), .sl (n.segs.map Seg.row), .sl (n.ports.map Port.row), .sl (n.sts.map Stn.row), di n.vap, di n.set] = some n := netOf1_row n
  have hc1 : lsOf boolOf1 (c.map bRow) = some c := lsOf_map boolOf1_row c
  generalize wayW n c a b = w at *
  have hw1 : lsOf hopOf1 (w.map hRow) = some w := lsOf_map hopOf1_row w
  have hw1000 : w.length ≤ 1000 := by omega
  have hsl := h.v.sl
  simp (config := { maxSteps := 500000 }) only [↓vp, vv, implies_true, forall_const, undef, InI, ↓reduceIte, simprocAttr, c12_11, RwF, RwH, netD]
  refine rng_loop n.segs.length (fun j => ⟨fr (RwF c a b w [(118, .sl (n.segs.map Seg.row)), (119, di n.segs.length), (120, di (j : Nat))]), RwH n⟩) (fun _ => True) (weak_eq [] [(0, 8)] (RwF c a b w [(118, .sl (n.segs.map Seg.row)), (119, di n.segs.length), (120, di 0)]) (by simp (config := { maxSteps := 500000 }) only [↓vp, vv, implies_true, forall_const, undef, InI, ↓reduceIte, simprocAttr, coverS, RwF, RwH, netD]) (by simp (config := { maxSteps := 500000 }) only [↓vp, vv, implies_true, forall_const, undef, InI, ↓reduceIte, simprocAttr, refsF, RwF, RwH, netD]) (by simp (config := { maxSteps := 500000 }) only [↓vp, vv, implies_true, forall_const, undef, InI, ↓reduceIte, simprocAttr, RwF, RwH, netD]) (by simp) (by simp (config := { maxSteps := 500000 }) only [↓vp, vv, implies_true, forall_const, undef, InI, ↓reduceIte, simprocAttr, RwF, RwH, netD]; try rfl)) trivial (fun j hj _ => ?_) (fun _ => ?_)
  · have hj' : (j : Int) < n.segs.length := by omega
    have hjn := idx_nn j
    have w1 := idx_next (j := j) (by omega)
    have jc : j < c.length := by omega
    have jc' : (j : Int) < c.length := by omega
    have gc := bRow_n c j jc
    have gs := getD_map Seg.row n.segs j hj
    have hx := hnx j hj
    have gcs : c[j]? = some (c.getD j false) := by rw [List.getD_eq_getElem?_getD, List.getElem?_eq_getElem jc]; rfl
    rw [gcs] at hx
    generalize c.getD j false = cl at gc hx
    have hse := h.v.se n.segs[j] (List.getElem_mem hj)
    generalize n.segs[j] = sg at gs hx hse
    cases cl with
    | true =>
      simp (config := { maxSteps := 500000 }) only [↓vp, vv, implies_true, forall_const, undef, InI, ↓reduceIte, simprocAttr, c12_9, c12_8, c12_7, RwF, RwH, netD, hj', hjn, jc, jc', Int.toNat_natCast, gc, gs, bRow, Seg.row, w1]
      exact rng_next hj (weak_eq [] [(0, 8)] (RwF c a b w [(118, .sl (n.segs.map Seg.row)), (119, di n.segs.length), (120, di (j + 1 : Nat))]) (by simp (config := { maxSteps := 500000 }) only [↓vp, vv, implies_true, forall_const, undef, InI, ↓reduceIte, simprocAttr, coverS, RwF, RwH, netD, w1]) (by simp (config := { maxSteps := 500000 }) only [↓vp, vv, implies_true, forall_const, undef, InI, ↓reduceIte, simprocAttr, refsF, RwF, RwH, netD, w1]) (by simp (config := { maxSteps := 500000 }) only [↓vp, vv, implies_true, forall_const, undef, InI, ↓reduceIte, simprocAttr, RwF, RwH, netD, w1]) (by simp) (by simp (config := { maxSteps := 500000 }) only [↓vp, vv, implies_true, forall_const, undef, InI, ↓reduceIte, simprocAttr, RwF, RwH, netD, w1]; try rfl)) trivial
    | false =>
      by_cases ht : sg.fr = a ∨ sg.to = a
      · obtain ⟨x, v, e1, hx1, hwd, hv, hvw⟩ := hx rfl ht
        have p1 : WyPre n c x b := ⟨h, by omega, by omega⟩
        have u1 : IntKind.i64.wrap (sg.fr + sg.to) = sg.fr + sg.to := wrap_i (by have := hse.1; have := hse.2.1; have := h.v.nl; omega)
        have u2 : IntKind.i64.wrap (sg.fr + sg.to - a) = x := by rw [e1]; exact wrap_i (by have := h.v.nl; omega)
        have u3 : IntKind.i64.wrap ((v.length : Int) + 1) = (v.length : Int) + 1 := wrap_i (by omega)
        have u4 : decide ((v.length : Int) + 1 < w.length) = false := decide_eq_false (by omega)
        have g1 : (sg.fr != (a : Int)) = true → (sg.to != (a : Int)) = false := fun e => by
          rcases ht with h1 | h1
          · rw [h1] at e; simp at e
          · rw [h1]; simp
        cases g2 : (sg.fr != (a : Int)) with
        | true =>
          have g3 := g1 g2
          simp (config := { maxSteps := 500000 }) only [↓vp, vv, implies_true, forall_const, undef, InI, ↓reduceIte, simprocAttr, c12_9, c12_8, c12_7, c12_6, TRw, TRl, TRa, selN2, RwF, RwH, netD, hj', hjn, jc, jc', Int.toNat_natCast, gc, gs, bRow, Seg.row, g2, g3, u1, u2, u3, u4, hn1, hc1, p1, hwd, w1]
          exact rng_next hj (weak_eq [] [(0, 8)] (RwF c a b w [(118, .sl (n.segs.map Seg.row)), (119, di n.segs.length), (120, di (j + 1 : Nat))]) (by simp (config := { maxSteps := 500000 }) only [↓vp, vv, implies_true, forall_const, undef, InI, ↓reduceIte, simprocAttr, coverS, RwF, RwH, netD, w1]) (by simp (config := { maxSteps := 500000 }) only [↓vp, vv, implies_true, forall_const, undef, InI, ↓reduceIte, simprocAttr, refsF, RwF, RwH, netD, w1]) (by simp (config := { maxSteps := 500000 }) only [↓vp, vv, implies_true, forall_const, undef, InI, ↓reduceIte, simprocAttr, RwF, RwH, netD, w1]) (by simp) (by simp (config := { maxSteps := 500000 }) only [↓vp, vv, implies_true, forall_const, undef, InI, ↓reduceIte, simprocAttr, RwF, RwH, netD, w1]; try rfl)) trivial
        | false =>
          simp (config := { maxSteps := 500000 }) only [↓vp, vv, implies_true, forall_const, undef, InI, ↓reduceIte, simprocAttr, c12_9, c12_8, c12_7, c12_6, TRw, TRl, TRa, selN2, RwF, RwH, netD, hj', hjn, jc, jc', Int.toNat_natCast, gc, gs, bRow, Seg.row, g2, u1, u2, u3, u4, hn1, hc1, p1, hwd, w1]
          exact rng_next hj (weak_eq [] [(0, 8)] (RwF c a b w [(118, .sl (n.segs.map Seg.row)), (119, di n.segs.length), (120, di (j + 1 : Nat))]) (by simp (config := { maxSteps := 500000 }) only [↓vp, vv, implies_true, forall_const, undef, InI, ↓reduceIte, simprocAttr, coverS, RwF, RwH, netD, w1]) (by simp (config := { maxSteps := 500000 }) only [↓vp, vv, implies_true, forall_const, undef, InI, ↓reduceIte, simprocAttr, refsF, RwF, RwH, netD, w1]) (by simp (config := { maxSteps := 500000 }) only [↓vp, vv, implies_true, forall_const, undef, InI, ↓reduceIte, simprocAttr, RwF, RwH, netD, w1]) (by simp) (by simp (config := { maxSteps := 500000 }) only [↓vp, vv, implies_true, forall_const, undef, InI, ↓reduceIte, simprocAttr, RwF, RwH, netD, w1]; try rfl)) trivial
      · have g2 : (sg.fr != (a : Int)) = true := by rw [bne_iff_ne]; exact fun e => ht (.inl e)
        have g3 : (sg.to != (a : Int)) = true := by rw [bne_iff_ne]; exact fun e => ht (.inr e)
        simp (config := { maxSteps := 500000 }) only [↓vp, vv, implies_true, forall_const, undef, InI, ↓reduceIte, simprocAttr, c12_9, c12_8, c12_7, RwF, RwH, netD, hj', hjn, jc, jc', Int.toNat_natCast, gc, gs, bRow, Seg.row, g2, g3, w1]
        exact rng_next hj (weak_eq [] [(0, 8)] (RwF c a b w [(118, .sl (n.segs.map Seg.row)), (119, di n.segs.length), (120, di (j + 1 : Nat))]) (by simp (config := { maxSteps := 500000 }) only [↓vp, vv, implies_true, forall_const, undef, InI, ↓reduceIte, simprocAttr, coverS, RwF, RwH, netD, w1]) (by simp (config := { maxSteps := 500000 }) only [↓vp, vv, implies_true, forall_const, undef, InI, ↓reduceIte, simprocAttr, refsF, RwF, RwH, netD, w1]) (by simp (config := { maxSteps := 500000 }) only [↓vp, vv, implies_true, forall_const, undef, InI, ↓reduceIte, simprocAttr, RwF, RwH, netD, w1]) (by simp) (by simp (config := { maxSteps := 500000 }) only [↓vp, vv, implies_true, forall_const, undef, InI, ↓reduceIte, simprocAttr, RwF, RwH, netD, w1]; try rfl)) trivial
  · have cont : ∀ F H, Weak [] ⟨F, H⟩ ⟨fr (RwF c a b w []), RwH n⟩ → vc (TRw Try.prog) (fun t => (0, t)) [] (.weak c12_10) RwQ ⟨F, H⟩ := fun F H hwk => by
      refine vc_wk hwk ?_
      unfold RwQ
      simp (config := { maxSteps := 500000 }) only [↓vp, vv, implies_true, forall_const, undef, InI, ↓reduceIte, simprocAttr, c12_10, TRw, TRl, TRa, selLen, selAw, r12, RwF, RwH, netD, hn1, hz, hw1, hw1000, hL, Pu]
    simp (config := { maxSteps := 500000 }) only [↓vp, vv, implies_true, forall_const, undef, InI, ↓reduceIte, simprocAttr, c12_9, RwF, RwH, netD, Int.lt_irrefl]
    exact cont _ _ (weak_eq [] [(0, 8)] (RwF c a b w []) (by simp (config := { maxSteps := 500000 }) only [↓vp, vv, implies_true, forall_const, undef, InI, ↓reduceIte, simprocAttr, coverS, RwF, RwH, netD]) (by simp (config := { maxSteps := 500000 }) only [↓vp, vv, implies_true, forall_const, undef, InI, ↓reduceIte, simprocAttr, refsF, RwF, RwH, netD]) (by simp (config := { maxSteps := 500000 }) only [↓vp, vv, implies_true, forall_const, undef, InI, ↓reduceIte, simprocAttr, RwF, RwH, netD]) (by simp) (by simp (config := { maxSteps := 500000 }) only [↓vp, vv, implies_true, forall_const, undef, InI, ↓reduceIte, simprocAttr, RwF, RwH, netD]; try rfl))
set_option maxHeartbeats 8000000 in
theorem RW_c (ns : List Int) (hns : ∀ n ∈ ns, InI n) (i k : Nat) (hi : i < 256) (hk : k < 256) (nn : Nm) : CallsA Try.prog 12 [.sl (ns.map fun n => [di n]), .v (.int .u8 i), .v (.int .u8 k)] Hp.none nn (Pu (db true) Hp.none) := by
  obtain ⟨code, h1, h2⟩ := c12_ok
  refine callsA_of TRw_ok mixed (N := fun t => (0, t)) Try.func12 h1 h2 r12_ok [] false js_nil js_nil' (by simp [Try.f12]) ?_
  have ho : SrcOk ((ns.map fun n => [di n]).take 2000) 0 := src_new ns hns
  simp (config := { maxSteps := 500000 }) only [↓vp, vv, implies_true, forall_const, undef, InI, ↓reduceIte, simprocAttr, c12, TRw, TRl, rowNew, sel0, selClo, ho, Net.enc]
  intro a1 n hn
  have hck := check_ok hn
  have hsl := hn.slen
  have hnl := hn.nlen
  have hn1 : netOf1 [D.sl (n.nodes.map nmRow), .sl (n.segs.map Seg.row), .sl (n.ports.map Port.row), .sl (n.sts.map Stn.row), di n.vap, di n.set] = some n := netOf1_row n
  have s1 : n.segs.length ≤ 1000 := by omega
  have wi : IntKind.i64.wrap (i : Int) = i := wrap_i (by omega)
  have wk : IntKind.i64.wrap (k : Int) = k := wrap_i (by omega)
  have mi := mod_i (i := i) (m := n.nodes.length)
  have mk := mod_i (i := k) (m := n.nodes.length)
  have la : i % n.nodes.length < n.nodes.length := Nat.mod_lt _ (by omega)
  have lb : k % n.nodes.length < n.nodes.length := Nat.mod_lt _ (by omega)
  have z0 : ¬ (n.nodes.length : Int) = 0 := by omega
  simp (config := { maxSteps := 500000 }) only [↓vp, vv, implies_true, forall_const, undef, InI, ↓reduceIte, simprocAttr, TRw, TRl, selClo, hn1, s1, a1.2, wi, wk, mi, mk, z0, netD]
  intro a2 c hc
  have hr : RtV n c := RtV.gen hn hc
  have hc1 : lsOf boolOf1 (c.map bRow) = some c := lsOf_map boolOf1_row c
  obtain ⟨w, e, r, hwd, hw, hrr, hrl, hcase⟩ := way_cases hr la lb
  have nx := rw_1 n c hr _ _ la lb
  have ny := rw_2 n c hr _ _ la lb
  generalize i % n.nodes.length = a at *
  generalize k % n.nodes.length = b at *
  have p1 : WyPre n c a b := ⟨hr, by omega, by omega⟩
  have p2 : RePre n c a := ⟨hr, by omega⟩
  have hr1 : lsOf intOf1 (r.map iRow) = some r := lsOf_map intOf1_row r
  have hr2 : r.length ≤ 1000000 := by omega
  rcases hcase with ⟨rfl, rfl, hco⟩ | ⟨rfl, rfl, hco, h0⟩
  · simp (config := { maxSteps := 500000 }) only [↓vp, vv, implies_true, forall_const, undef, InI, ↓reduceIte, simprocAttr, TRw, TRl, TRa, selN1, selN2, selInI, selAw, c12_14, r12, hn1, hc1, p1, p2, hwd, hrr, hr1, hr2, hco, wi, wk, mi, mk, z0, netD, Int.toNat_natCast, Pu]
  · simp (config := { maxSteps := 500000 }) only [↓vp, vv, implies_true, forall_const, undef, InI, ↓reduceIte, simprocAttr, TRw, TRl, TRa, selN1, selN2, selInI, selAw, c12_14, hn1, hc1, p1, p2, hwd, hrr, hr1, hr2, hco, wi, wk, mi, mk, z0, netD, Int.toNat_natCast]
    refine nx h0 _ _ ?_ (ny h0)
    exact (weak_eq [] [(0, 8)] (RwF c a b (wayW n c a b) []) (by simp (config := { maxSteps := 500000 }) only [↓vp, vv, implies_true, forall_const, undef, InI, ↓reduceIte, simprocAttr, coverS, RwF, RwH, netD]) (by simp (config := { maxSteps := 500000 }) only [↓vp, vv, implies_true, forall_const, undef, InI, ↓reduceIte, simprocAttr, refsF, RwF, RwH, netD]) (by simp (config := { maxSteps := 500000 }) only [↓vp, vv, implies_true, forall_const, undef, InI, ↓reduceIte, simprocAttr, RwF, RwH, netD]) (by simp) (by simp (config := { maxSteps := 500000 }) only [↓vp, vv, implies_true, forall_const, undef, InI, ↓reduceIte, simprocAttr, RwF, RwH, netD]; try rfl))
theorem RouteWays_law (a : Option Addr) (len cap : Nat) (i k : Int) (w : World) (h : ArgInts w a len cap) (h0 : 0 ≤ i) (h1 : i ≤ 255) (k0 : 0 ≤ k) (k1 : k ≤ 255) :
    Calls Try.prog 12 #[.slice a len cap, .int .u8 i, .int .u8 k] w (Ret (.bool true) w) := by
  refine law_ints (us := [.int .u8 i, .int .u8 k]) h fun ns hns => ?_
  have := RW_c ns hns i.toNat k.toNat (by omega) (by omega) (0, 0)
  rw [show ((i.toNat : Nat) : Int) = i by omega, show ((k.toNat : Nat) : Int) = k by omega] at this
  exact this
end Go.Proofs.Ytemkjjlpggmolaa
