/- RouteAnswers: Rb2. -/
import Derived.Test.YtadjhfjiimgddaaYr14
set_option linter.unusedSimpArgs false
set_option linter.unusedVariables false
set_option maxRecDepth 100000

/- Routes: the reference's Way for every network. -/
namespace Go.Proofs.Ytadjhfjiimgddaa
open Go
def selCk13 : List D → Option (Prop × D)
 | [.agg a, .sl rows] => match netOf1 a, lsOf boolOf1 rows with
  | some n, some c => some (c.length ≤ 1000000, di (rchk n c))
  | _, _ => Option.none
 | _ => Option.none
theorem tc_ck13 {T : Tbl} (hT : TblOk Try.prog T) : TblOk Try.prog (tc 108 (rowPu selCk13) T) :=
 tc_pu f108_ok (fun args pre d hs hp nn => by
  unfold selCk13 at hs
  split at hs
  ·split at hs
   ·rename_i e1 e2
    cases hs
    rw [netOf1_eq e1, lsOf_eq (fun r x => boolOf1_eq) e2]
    exact rck13_c _ _ hp nn
   ·cases hs
  ·cases hs) hT
def selNd13 : List D → Option (Prop × D)
 | [.agg a, .v (.int .i64 k)] => match netOf1 a with
  | some n => some (True, db (!unk n k))
  | _ => Option.none
 | _ => Option.none
theorem tc_nd13 {T : Tbl} (hT : TblOk Try.prog T) : TblOk Try.prog (tc 109 (rowPu selNd13) T) :=
 tc_pu f109_ok (fun args pre d hs hp nn => by
  unfold selNd13 at hs
  split at hs
  ·split at hs
   ·rename_i e1
    cases hs
    rw [netOf1_eq e1]
    exact node_w _ _ nn
   ·cases hs
  ·cases hs) hT
def selDi : List D → Option (Prop × D) := selDs DsPre fun n c k => .sl ((distL n c k.toNat).map iRow)
theorem tc_di {T : Tbl} (hT : TblOk Try.prog T) : TblOk Try.prog (tc 110 (rowPu selDi) T) := tc_ds f110_ok (fun n c k h nn => by
 have := dist_c n h.v c h.l k.toNat (by have := h.k; omega) nn
 rw [show ((k.toNat : Nat) : Int) = k by have := h.k; omega] at this
 exact this) hT
def TWz : Tbl := tc 108 (rowPu selCk13) (tc 109 (rowPu selNd13) (tc 110 (rowPu selDi) (tc 111 (rowPu selEn) T0)))
theorem TWz_ok : TblOk Try.prog TWz := tc_ck13 (tc_nd13 (tc_di (tc_en f111_ok REnds_c (T0_ok _))))
def fX : Option (Nat × Nat × Bool) → Int
 | some (_, w, _) => (w : Int)
 | Option.none => -1
def fO (o : List (Int × Bool)) : Option (Nat × Nat × Bool) → List (Int × Bool)
 | some (k, _, b) => o ++ [((k : Int), b)]
 | Option.none => o
def fG (g : Nat) : Option (Nat × Nat × Bool) → Nat
 | some _ => g + 1
 | Option.none => g
def orO {α : Type} : Option α → Option α → Option α
 | some q, _ => some q
 | Option.none, v => v
def nwO (D : List Int) (a k : Nat) (x : Seg × Bool) : Option (Nat × Nat × Bool) := match ovr x a with
 | some (w, b) => if D.getD w 0 = D.getD a 0 - 1 then some (k, w, b) else Option.none
 | Option.none => Option.none
theorem pickF_app {D : List Int} {a : Nat} {x : Seg × Bool} : ∀ (E : List (Seg × Bool)) (k : Nat), pickF D a k (E ++ [x]) = orO (pickF D a k E) (nwO D a (k + E.length) x)
 | [], k => by
  show pickF D a k [x] = _
  unfold pickF nwO
  cases ovr x a with
  | none => rfl
  | some r => obtain ⟨w, b⟩ := r; rfl
 | y :: E, k => by
  rw [List.cons_append]
  unfold pickF
  rw [pickF_app E (k + 1), List.length_cons, show k + 1 + E.length = k + (E.length + 1) by omega]
  cases ovr y a with
  | none => rfl
  | some r =>
   obtain ⟨w, b⟩ := r
   dsimp only
   split <;> rfl
def dirO (D : List Int) (b j U T : Nat) (cj : Bool) : Option (Nat × Nat × Bool) := if cj = true then Option.none else if U = b then (if D.getD T 0 = D.getD b 0 - 1 then some (j, T, false) else Option.none) else if T = b then (if D.getD U 0 = D.getD b 0 - 1 then some (j, U, true) else Option.none) else Option.none
theorem nwO_dir (D : List Int) (b j U T : Nat) (sg : Seg) (cj : Bool) (hU : sg.fr = U) (hT : sg.to = T) : nwO D b j (sg, cj) = dirO D b j U T cj := by
 unfold nwO dirO ovr
 dsimp only
 rw [hU, hT, Int.toNat_natCast, Int.toNat_natCast]
 by_cases q1 : cj = true
 ·rw [if_pos q1, if_pos q1]
 ·rw [if_neg q1, if_neg q1]
  by_cases q2 : U = b
  ·rw [if_pos (by omega), if_pos q2]
  ·rw [if_neg (by omega), if_neg q2]
   by_cases q3 : T = b
   ·rw [if_pos (by omega), if_pos q3]
   ·rw [if_neg (by omega), if_neg q3]
def rr3 {α : Type} (a b c : α) : Nat → α
 | 0 => a
 | 1 => b
 | _ => c
def WzF (c : List Bool) (b t : Nat) (D0 : List Int) (o : List (Int × Bool)) (g : Nat) (l : List (Nat × D)) : List (Nat × D) := (1, .sl (c.map bRow)) :: (2, di b) :: (3, di t) :: (4, .ptr (0, 4) 0 0 0) :: (11, .sl (D0.map iRow)) :: (12, .own (0, 98) g 0 o.length) :: l
def WzH (n : Net) (o : List (Int × Bool)) (g : Nat) : Hp := (Hp.none.put (0, 98) ⟨g, 2, o.map hRow⟩).put (0, 4) ⟨0, 6, [netD n]⟩
def WzG (n : Net) (o : List (Int × Bool)) (g : Nat) : Hp := ((Hp.none.put (0, 54) ⟨0, 1, [[db false], [db true]]⟩).put (0, 98) ⟨g, 2, o.map hRow⟩).put (0, 4) ⟨0, 6, [netD n]⟩
def WzI (n : Net) (c : List Bool) (t : Nat) (E : List (Seg × Bool)) (D0 : List Int) (Z : List (Int × Bool)) : Nat → St → Prop := fun k s => ∃ a o g, a < n.nodes.length ∧ D0.getD a 0 = k ∧ o ++ wayL E D0 k a = Z ∧ s = ⟨fr (WzF c a t D0 o g []), WzH n o g⟩
def WzS (n : Net) (c : List Bool) (b t : Nat) (D0 : List Int) (o : List (Int × Bool)) (g : Nat) (r : Option (Nat × Nat × Bool)) (j : Int) : St := ⟨fr (WzF c b t D0 (fO o r) (fG g r) [(13, di (fX r)), (50, di n.segs.length), (51, di j)]), WzH n (fO o r) (fG g r)⟩
def WzD (n : Net) (c : List Bool) (b t : Nat) (D0 : List Int) (o : List (Int × Bool)) (g : Nat) (r : Option (Nat × Nat × Bool)) (j i : Int) : St := ⟨fr (WzF c b t D0 (fO o r) (fG g r) [(13, di (fX r)), (14, di j), (50, di n.segs.length), (51, di j), (54, .own (0, 54) 0 0 2), (55, di 2), (56, di i)]), WzG n (fO o r) (fG g r)⟩
set_option maxHeartbeats 32000000 in
theorem rway_c (n : Net) (c : List Bool) (hc : c.length ≤ 1000000) (a t : Int) (nn : Nm) : CallsA Try.prog 52 [n.enc, .sl (c.map bRow), di a, di t] Hp.none nn (Pu (wayA n c a t) Hp.none) := by
 obtain ⟨code, h1, h2⟩ := c52_ok
 refine callsA_of TWz_ok mixed (N := fun t => (0, t)) Try.func52 h1 h2 r52_ok [] false js_nil js_nil' (by simp [Try.f52]) ?_
 have hn1 := netOf1_x n
 have hb1 : lsOf boolOf1 (c.map bRow) = some c := lsOf_map boolOf1_row c
 unfold wayA
 rw [gchk_r]
 by_cases c0 : ¬ rchk n c = 0
 ·have c0' : (rchk n c != 0) = true := by simpa using c0
  rw [if_neg c0, if_neg c0]
  simp (maxSteps:=500000) only [↓vp, vv, ↓reduceIte, simprocAttr, c52, r52, c52_1, c52_10, c52_11, c52_12, c52_13, c52_2, c52_3, c52_4, c52_5, c52_6, c52_7, c52_8, c52_9, r52, TWz, selCk13, Net.enc, netD, hn1, hb1, hc, c0', List.map_nil, Pu]
 have c0 : rchk n c = 0 := Decidable.of_not_not c0
 rw [if_pos c0]
 have uq : ([a, t].any (unk n)) = (unk n a || unk n t) := by simp
 rw [uq]
 cases u1 : unk n a with
 | true => simp (maxSteps:=500000) only [↓vp, vv, ↓reduceIte, simprocAttr, c52, r52, c52_1, c52_10, c52_11, c52_12, c52_13, c52_2, c52_3, c52_4, c52_5, c52_6, c52_7, c52_8, c52_9, r52, TWz, selCk13, selNd13, Net.enc, netD, hn1, hb1, hc, c0, u1, bne_self_eq_false, Bool.true_or, Bool.not_true, List.map_nil, Pu]
 | false =>
 cases u2 : unk n t with
 | true => simp (maxSteps:=500000) only [↓vp, vv, ↓reduceIte, simprocAttr, c52, r52, c52_1, c52_10, c52_11, c52_12, c52_13, c52_2, c52_3, c52_4, c52_5, c52_6, c52_7, c52_8, c52_9, r52, TWz, selCk13, selNd13, Net.enc, netD, hn1, hb1, hc, c0, u1, u2, bne_self_eq_false, Bool.false_or, Bool.not_true, Bool.not_false, List.map_nil, Pu]
 | false =>
 have h := rtv_of c0
 have ua := unk_f u1
 have ut := unk_f u2
 obtain ⟨A, rfl⟩ : ∃ A : Nat, a = (A : Int) := ⟨a.toNat, by omega⟩
 obtain ⟨t, rfl⟩ : ∃ t' : Nat, t = (t' : Int) := ⟨t.toNat, by omega⟩
 rw [if_pos (by decide), Int.toNat_natCast, Int.toNat_natCast]
 have ha : A < n.nodes.length := by omega
 have ht : t < n.nodes.length := by omega
 have hdp : DsPre n c (t : Int) := ⟨h.v, h.l, by omega⟩
 have hdh := dist_hops h.ok ht
 have hv := h.v
 have hnl := hv.nl
 have hsl := hv.sl
 have han := idx_nn A
 have htn := idx_nn t
 have hD := h.ok.isD ht
 have hE := h.ok.s
 have hlt := fun (k : Nat) (hk : k < n.nodes.length) => hD.lt_N hE hk
 have hlo := hD.lo
 have hW : ∀ m : Nat, (hopsL n c t).getD A 0 = m → wayW n c A t = wayL (n.segs.zip c) (hopsL n c t) m A := fun m hm => by unfold wayW; rw [hm]; rfl
 have hWl : 0 ≤ (hopsL n c t).getD A 0 → (wayW n c A t).length ≤ 24 := fun h0 => by
  have := (h.ok.way ha ht h0).2
  have := hlt A ha
  omega
 unfold wayD
 generalize hD0 : hopsL n c t = D0 at *
 generalize wayW n c A t = Z at *
 have hDl := hD.len
 have g1 := iRow_dd D0 A (by omega)
 have al : A < D0.length := by omega
 have al' : (A : Int) < D0.length := by omega
 cases hd : decide (D0.getD A 0 < 0) with
 | true =>
  rw [if_pos (by simpa using hd)]
  simp (maxSteps:=500000) only [↓vp, vv, ↓reduceIte, simprocAttr, c52, r52, c52_1, c52_10, c52_11, c52_12, c52_13, c52_2, c52_3, c52_4, c52_5, c52_6, c52_7, c52_8, c52_9, r52, TWz, selCk13, selNd13, selDi, selDs, Net.enc, netD, hn1, hb1, hc, c0, u1, u2, hdp, hdh, han, htn, al, al', g1, hd, bne_self_eq_false, Bool.not_false, Int.toNat_natCast, List.map_nil, Pu]
 | false =>
  have h0 : 0 ≤ D0.getD A 0 := by simpa using hd
  rw [if_neg (by omega)]
  simp (maxSteps:=500000) only [↓vp, vv, ↓reduceIte, simprocAttr, c52, r52, c52_1, c52_10, c52_11, c52_12, c52_13, c52_2, c52_3, c52_4, c52_5, c52_6, c52_7, c52_8, c52_9, TWz, selCk13, selNd13, selDi, selDs, Net.enc, netD, hn1, hb1, hc, c0, u1, u2, hdp, hdh, han, htn, al, al', g1, hd, bne_self_eq_false, Bool.not_false, Int.toNat_natCast]
  rw [vc_loop]
  obtain ⟨m0, hm0⟩ : ∃ m0 : Nat, D0.getD A 0 = m0 := ⟨(D0.getD A 0).toNat, by omega⟩
  refine ⟨WzI n c t (n.segs.zip c) D0 Z, ⟨m0, _, (weak_own 12 (0, 98) 2 (by simp only [↓vp, vv, ↓reduceIte, simprocAttr, ]) (by simp only [↓vp, vv, ↓reduceIte, simprocAttr, ])).trans (weak_eqA [] [(0, 4), (0, 98)] (WzF c A t D0 [] 0 []) (by refine ⟨?_, ?_, ?_, by simp, ?_⟩ <;> (simp only [↓vp, vv, ↓reduceIte, simprocAttr, coverS, refsF, WzF, WzH, netD, iRow, hRow] <;> try rfl))), A, [], 0, ha, hm0, by rw [hW m0 hm0]; rfl, rfl⟩, ?_⟩
  rintro k s ⟨b, o, g, hb, hbk, ho, rfl⟩
  have hbn := idx_nn b
  have hZl := hWl h0
  have hol : o.length ≤ 24 := by
   have := congrArg List.length ho
   rw [List.length_append] at this
   omega
  cases k with
  | zero =>
   have hbt : b = t := (hD.z b hb).1 hbk
   have e0 : ((b : Int) != (t : Int)) = false := by rw [hbt]; simp
   have eZ : o = Z := by rw [← ho]; show o = o ++ []; rw [List.append_nil]
   have tk : (o.map hRow).take o.length = o.map hRow := List.take_of_length_le (by simp)
   simp (maxSteps:=500000) only [↓vp, vv, ↓reduceIte, simprocAttr, c52, r52, c52_1, c52_10, c52_11, c52_12, c52_13, c52_2, c52_3, c52_4, c52_5, c52_6, c52_7, c52_8, c52_9, r52, TWz, WzF, WzH, netD, e0, tk, eZ, Pu]
   exact fun j _ d hd => hRow_pl j d hd
  | succ m =>
   have hbt : ¬ b = t := fun e => by have := (hD.z b hb).2 e; omega
   have e0 : ((b : Int) != (t : Int)) = true := by rw [bne_iff_ne]; omega
   have hzl : (n.segs.zip c).length = n.segs.length := by rw [List.length_zip, h.l]; omega
   have hbl : b < D0.length := by omega
   have hbl' : (b : Int) < D0.length := by omega
   have gb := iRow_dd D0 b hbl
   have l1 := hlt b hb
   have wd : IntKind.i64.wrap (D0.getD b 0 - 1) = D0.getD b 0 - 1 := wrap_i (by omega)
   obtain ⟨k1, w1', b1, hp1⟩ := hD.pick hb hbk
   have rfH : ∀ (l : List (Int × Bool)) js, (∀ x, x ∈ l → refsInL js (hRow x) = true) = True := fun l js => eq_true fun x _ => rfl
   have rfI : ∀ (l : List Int) js, (∀ x, x ∈ l → refsInL js (iRow x) = true) = True := fun l js => eq_true fun x _ => rfl
   simp (maxSteps:=500000) only [↓vp, vv, ↓reduceIte, simprocAttr, c52, r52, c52_1, c52_10, c52_11, c52_12, c52_13, c52_2, c52_3, c52_4, c52_5, c52_6, c52_7, c52_8, c52_9, TWz, WzF, WzH, netD, e0]
   refine rng_loop n.segs.length (fun j => WzS n c b t D0 o g (pickF D0 b 0 ((n.segs.zip c).take j)) (j : Nat)) (fun _ => True) ?_ trivial (fun j hj _ => ?_) (fun _ => ?_)
   ·have p0 : pickF D0 b 0 [] = Option.none := rfl
    exact (weak_eqA [] [(0, 4), (0, 98)] (WzF c b t D0 (fO o (pickF D0 b 0 ((n.segs.zip c).take 0))) (fG g (pickF D0 b 0 ((n.segs.zip c).take 0))) [(13, di (fX (pickF D0 b 0 ((n.segs.zip c).take 0)))), (50, di n.segs.length), (51, di 0)]) (by refine ⟨?_, ?_, ?_, by simp, ?_⟩ <;> (simp only [↓vp, vv, ↓reduceIte, simprocAttr, coverS, refsF, p0, fO, fG, fX, WzS, WzF, WzH, netD, rfH, rfI] <;> try rfl)))
   ·have hj' : (j : Int) < n.segs.length := by omega
    have hjn := idx_nn j
    have wj := idx_next (j := j) (by omega)
    have hjz : j < (n.segs.zip c).length := by omega
    have hjc : j < c.length := by have := h.l; omega
    have hjc' : (j : Int) < c.length := by omega
    have tks : (n.segs.zip c).take (j + 1) = (n.segs.zip c).take j ++ [(n.segs[j], c[j])] := by
     rw [List.take_add_one, List.getElem?_eq_getElem hjz, List.getElem_zip]
     rfl
    have tl : ((n.segs.zip c).take j).length = j := by rw [List.length_take]; omega
    have pa := pickF_app (D := D0) (a := b) (x := (n.segs[j], c[j])) ((n.segs.zip c).take j) 0
    rw [← tks, tl, Nat.zero_add] at pa
    have gc := bRow_g1 c j hjc
    have hse := hv.se n.segs[j] (List.getElem_mem hj)
    have ef : hEnds n ((j : Int), false) = (n.segs[j].fr, n.segs[j].to) := by unfold hEnds; dsimp only; rw [Int.toNat_natCast, List.getElem?_eq_getElem hj]; rfl
    have et : hEnds n ((j : Int), true) = (n.segs[j].to, n.segs[j].fr) := by unfold hEnds; dsimp only; rw [Int.toNat_natCast, List.getElem?_eq_getElem hj]; rfl
    have hin : ∀ bb, hIn n ((j : Int), bb) := fun bb => ⟨by dsimp only; omega, by dsimp only; omega⟩
    obtain ⟨r2, hr2⟩ : ∃ r2, pickF D0 b 0 ((n.segs.zip c).take (j + 1)) = r2 := ⟨_, rfl⟩
    have fin2 : ∀ (R : Option (Nat × Nat × Bool)) (s0 : St), r2 = R → Weak [] s0 (WzS n c b t D0 o g R ((j + 1 : Nat) : Int)) → Weak [] s0 (WzS n c b t D0 o g (pickF D0 b 0 ((n.segs.zip c).take (j + 1))) ((j + 1 : Nat) : Int)) := fun R s0 h1 hw => by rw [hr2, h1]; exact hw
    rw [hr2] at pa
    generalize pickF D0 b 0 ((n.segs.zip c).take j) = r at pa ⊢
    have hin0 := hin false
    have hin1 := hin true
    have w01 : IntKind.i64.wrap 1 = 1 := by decide
    have w02 : IntKind.i64.wrap 2 = 2 := by decide
    generalize n.segs[j] = sg at pa hse ef et
    generalize c[j] = cj at pa gc
    obtain ⟨U, hU⟩ : ∃ U : Nat, sg.fr = (U : Int) := ⟨sg.fr.toNat, by omega⟩
    obtain ⟨T, hT⟩ : ∃ T : Nat, sg.to = (T : Int) := ⟨sg.to.toNat, by omega⟩
    have hUT : U ≠ T := by omega
    rw [hU, hT] at ef et
    have gU := iRow_dd D0 U (by omega)
    have gT := iRow_dd D0 T (by omega)
    have lU : U < D0.length := by omega
    have lT : T < D0.length := by omega
    have lU' : (U : Int) < D0.length := by omega
    have lT' : (T : Int) < D0.length := by omega
    have nU := idx_nn U
    have nT := idx_nn T
    have y1 : (o.length + 1) * 16 ≤ 140737488355328 := by omega
    have y2 : o.length + 1 ≤ 4611686018427387904 := by omega
    have pv : r2 = orO r (dirO D0 b j U T cj) := by rw [pa, nwO_dir D0 b j U T sg cj hU hT]
    clear pa
    simp (maxSteps:=500000) only [↓vp, vv, ↓reduceIte, simprocAttr, c52, r52, c52_1, c52_10, c52_11, c52_12, c52_13, c52_2, c52_3, c52_4, c52_5, c52_6, c52_7, c52_8, c52_9, TWz, WzS, WzF, WzH, netD, hj', hjn, Int.toNat_natCast]
    -- INNER
    cases r with
    | some q =>
     obtain ⟨k0, w0, b0⟩ := q
     have pv : r2 = some (k0, w0, b0) := pv
     have nw : decide ((w0 : Int) < 0) = false := decide_eq_false (by omega)
     have nw' : ¬ (w0 : Int) < 0 := by omega
     refine rng_loop 2 (fun i => WzD n c b t D0 o g (rr3 (some (k0, w0, b0)) (some (k0, w0, b0)) (some (k0, w0, b0)) i) (j : Int) (i : Nat)) (fun _ => True) ?_ trivial (fun i hi _ => ?_) (fun _ => ?_)
     ·exact (weak_eqA [] [(0, 4), (0, 98), (0, 54)] (WzF c b t D0 (fO o (some (k0, w0, b0))) (fG g (some (k0, w0, b0))) [(13, di (fX (some (k0, w0, b0)))), (14, di (j : Int)), (50, di n.segs.length), (51, di (j : Int)), (54, .own (0, 54) 0 0 2), (55, di 2), (56, di (0 : Nat))]) (by refine ⟨?_, ?_, ?_, by simp, ?_⟩ <;> (simp only [↓vp, vv, ↓reduceIte, simprocAttr, coverS, refsF, WzD, WzF, WzG, WzH, rr3, fO, fG, fX, netD, rfH, rfI, hRow, w01, w02, List.map_append, List.length_append, List.length_cons, List.length_nil] <;> try rfl)))
     ·rcases (show i = 0 ∨ i = 1 by omega) with rfl | rfl
      ·simp (maxSteps:=500000) only [↓vp, vv, ↓reduceIte, simprocAttr, c52, r52, c52_1, c52_10, c52_11, c52_12, c52_13, c52_2, c52_3, c52_4, c52_5, c52_6, c52_7, c52_8, c52_9, TWz, selEn, WzD, WzF, WzG, WzH, rr3, fO, fG, fX, netD, hn1, hin0, hin1, ef, et, hjc, hjc', hjn, gc, gU, gT, gb, lU, lT, lU', lT', nU, nT, hbl, hbl', hbn, wd, y1, y2, w01, w02, nw, nw', Bool.not_true, Bool.not_false, Int.toNat_natCast]
       refine rng_next hi ?_ trivial
       exact (weak_eqA [] [(0, 4), (0, 98), (0, 54)] (WzF c b t D0 (fO o (some (k0, w0, b0))) (fG g (some (k0, w0, b0))) [(13, di (fX (some (k0, w0, b0)))), (14, di (j : Int)), (50, di n.segs.length), (51, di (j : Int)), (54, .own (0, 54) 0 0 2), (55, di 2), (56, di (1 : Nat))]) (by refine ⟨?_, ?_, ?_, by simp, ?_⟩ <;> (simp only [↓vp, vv, ↓reduceIte, simprocAttr, coverS, refsF, WzD, WzF, WzG, WzH, rr3, fO, fG, fX, netD, rfH, rfI, hRow, w01, w02, List.map_append, List.length_append, List.length_cons, List.length_nil] <;> try rfl)))
      ·simp (maxSteps:=500000) only [↓vp, vv, ↓reduceIte, simprocAttr, c52, r52, c52_1, c52_10, c52_11, c52_12, c52_13, c52_2, c52_3, c52_4, c52_5, c52_6, c52_7, c52_8, c52_9, TWz, selEn, WzD, WzF, WzG, WzH, rr3, fO, fG, fX, netD, hn1, hin0, hin1, ef, et, hjc, hjc', hjn, gc, gU, gT, gb, lU, lT, lU', lT', nU, nT, hbl, hbl', hbn, wd, y1, y2, w01, w02, nw, nw', Bool.not_true, Bool.not_false, Int.toNat_natCast]
       refine rng_next hi ?_ trivial
       exact (weak_eqA [] [(0, 4), (0, 98), (0, 54)] (WzF c b t D0 (fO o (some (k0, w0, b0))) (fG g (some (k0, w0, b0))) [(13, di (fX (some (k0, w0, b0)))), (14, di (j : Int)), (50, di n.segs.length), (51, di (j : Int)), (54, .own (0, 54) 0 0 2), (55, di 2), (56, di (2 : Nat))]) (by refine ⟨?_, ?_, ?_, by simp, ?_⟩ <;> (simp only [↓vp, vv, ↓reduceIte, simprocAttr, coverS, refsF, WzD, WzF, WzG, WzH, rr3, fO, fG, fX, netD, rfH, rfI, hRow, w01, w02, List.map_append, List.length_append, List.length_cons, List.length_nil] <;> try rfl)))
     ·simp (maxSteps:=500000) only [↓vp, vv, ↓reduceIte, simprocAttr, c52, r52, c52_1, c52_10, c52_11, c52_12, c52_13, c52_2, c52_3, c52_4, c52_5, c52_6, c52_7, c52_8, c52_9, TWz, selEn, WzD, WzF, WzG, WzH, rr3, fO, fG, fX, netD, hn1, hin0, hin1, ef, et, hjc, hjc', hjn, gc, gU, gT, gb, lU, lT, lU', lT', nU, nT, hbl, hbl', hbn, wd, y1, y2, w01, w02, nw, nw', Int.lt_irrefl, Bool.not_true, Bool.not_false, Int.toNat_natCast]
      refine rng_next hj (fin2 (some (k0, w0, b0)) _ pv ?_) trivial
      exact (weak_eqA [] [(0, 4), (0, 98)] (WzF c b t D0 (fO o (some (k0, w0, b0))) (fG g (some (k0, w0, b0))) [(13, di (fX (some (k0, w0, b0)))), (50, di n.segs.length), (51, di ((j + 1 : Nat) : Int))]) (by refine ⟨?_, ?_, ?_, by simp, ?_⟩ <;> (simp only [↓vp, vv, ↓reduceIte, simprocAttr, coverS, refsF, WzS, WzF, WzG, WzH, rr3, fO, fG, fX, netD, rfH, rfI, wj, hRow, List.map_append, List.length_append, List.length_cons, List.length_nil] <;> try rfl)))
    | none =>
     have pv : r2 = dirO D0 b j U T cj := pv
     unfold dirO at pv
     cases cj with
     | true =>
      rw [if_pos rfl] at pv
      refine rng_loop 2 (fun i => WzD n c b t D0 o g (rr3 (Option.none) (Option.none) (Option.none) i) (j : Int) (i : Nat)) (fun _ => True) ?_ trivial (fun i hi _ => ?_) (fun _ => ?_)
      ·exact (weak_eqA [] [(0, 4), (0, 98), (0, 54)] (WzF c b t D0 (fO o (Option.none)) (fG g (Option.none)) [(13, di (fX (Option.none))), (14, di (j : Int)), (50, di n.segs.length), (51, di (j : Int)), (54, .own (0, 54) 0 0 2), (55, di 2), (56, di (0 : Nat))]) (by refine ⟨?_, ?_, ?_, by simp, ?_⟩ <;> (simp only [↓vp, vv, ↓reduceIte, simprocAttr, coverS, refsF, WzD, WzF, WzG, WzH, rr3, fO, fG, fX, netD, rfH, rfI, hRow, w01, w02, List.map_append, List.length_append, List.length_cons, List.length_nil] <;> try rfl)))
      ·rcases (show i = 0 ∨ i = 1 by omega) with rfl | rfl
       ·simp (maxSteps:=500000) only [↓vp, vv, ↓reduceIte, simprocAttr, c52, r52, c52_1, c52_10, c52_11, c52_12, c52_13, c52_2, c52_3, c52_4, c52_5, c52_6, c52_7, c52_8, c52_9, TWz, selEn, WzD, WzF, WzG, WzH, rr3, fO, fG, fX, netD, hn1, hin0, hin1, ef, et, hjc, hjc', hjn, gc, gU, gT, gb, lU, lT, lU', lT', nU, nT, hbl, hbl', hbn, wd, y1, y2, w01, w02, fX, Bool.not_true, Bool.not_false, Int.toNat_natCast]
        refine rng_next hi ?_ trivial
        exact (weak_eqA [] [(0, 4), (0, 98), (0, 54)] (WzF c b t D0 (fO o (Option.none)) (fG g (Option.none)) [(13, di (fX (Option.none))), (14, di (j : Int)), (50, di n.segs.length), (51, di (j : Int)), (54, .own (0, 54) 0 0 2), (55, di 2), (56, di (1 : Nat))]) (by refine ⟨?_, ?_, ?_, by simp, ?_⟩ <;> (simp only [↓vp, vv, ↓reduceIte, simprocAttr, coverS, refsF, WzD, WzF, WzG, WzH, rr3, fO, fG, fX, netD, rfH, rfI, hRow, w01, w02, List.map_append, List.length_append, List.length_cons, List.length_nil] <;> try rfl)))
       ·simp (maxSteps:=500000) only [↓vp, vv, ↓reduceIte, simprocAttr, c52, r52, c52_1, c52_10, c52_11, c52_12, c52_13, c52_2, c52_3, c52_4, c52_5, c52_6, c52_7, c52_8, c52_9, TWz, selEn, WzD, WzF, WzG, WzH, rr3, fO, fG, fX, netD, hn1, hin0, hin1, ef, et, hjc, hjc', hjn, gc, gU, gT, gb, lU, lT, lU', lT', nU, nT, hbl, hbl', hbn, wd, y1, y2, w01, w02, fX, Bool.not_true, Bool.not_false, Int.toNat_natCast]
        refine rng_next hi ?_ trivial
        exact (weak_eqA [] [(0, 4), (0, 98), (0, 54)] (WzF c b t D0 (fO o (Option.none)) (fG g (Option.none)) [(13, di (fX (Option.none))), (14, di (j : Int)), (50, di n.segs.length), (51, di (j : Int)), (54, .own (0, 54) 0 0 2), (55, di 2), (56, di (2 : Nat))]) (by refine ⟨?_, ?_, ?_, by simp, ?_⟩ <;> (simp only [↓vp, vv, ↓reduceIte, simprocAttr, coverS, refsF, WzD, WzF, WzG, WzH, rr3, fO, fG, fX, netD, rfH, rfI, hRow, w01, w02, List.map_append, List.length_append, List.length_cons, List.length_nil] <;> try rfl)))
      ·simp (maxSteps:=500000) only [↓vp, vv, ↓reduceIte, simprocAttr, c52, r52, c52_1, c52_10, c52_11, c52_12, c52_13, c52_2, c52_3, c52_4, c52_5, c52_6, c52_7, c52_8, c52_9, TWz, selEn, WzD, WzF, WzG, WzH, rr3, fO, fG, fX, netD, hn1, hin0, hin1, ef, et, hjc, hjc', hjn, gc, gU, gT, gb, lU, lT, lU', lT', nU, nT, hbl, hbl', hbn, wd, y1, y2, w01, w02, fX, Int.lt_irrefl, Bool.not_true, Bool.not_false, Int.toNat_natCast]
       refine rng_next hj (fin2 (Option.none) _ pv ?_) trivial
       exact (weak_eqA [] [(0, 4), (0, 98)] (WzF c b t D0 (fO o (Option.none)) (fG g (Option.none)) [(13, di (fX (Option.none))), (50, di n.segs.length), (51, di ((j + 1 : Nat) : Int))]) (by refine ⟨?_, ?_, ?_, by simp, ?_⟩ <;> (simp only [↓vp, vv, ↓reduceIte, simprocAttr, coverS, refsF, WzS, WzF, WzG, WzH, rr3, fO, fG, fX, netD, rfH, rfI, wj, hRow, List.map_append, List.length_append, List.length_cons, List.length_nil] <;> try rfl)))
     | false =>
      rw [if_neg (by decide)] at pv
      by_cases q2 : U = b
      ·have e2 : ((U : Int) == (b : Int)) = true := by rw [q2]; exact beq_self_eq_true _
       have e3 : ((T : Int) == (b : Int)) = false := by rw [beq_eq_false_iff_ne]; omega
       rw [if_pos q2] at pv
       cases q4 : (D0.getD T 0 == D0.getD b 0 - 1) with
       | true =>
        rw [if_pos (by simpa using q4)] at pv
        have nw : decide ((T : Int) < 0) = false := decide_eq_false (by omega)
        have nw' : ¬ (T : Int) < 0 := by omega
        refine rng_loop 2 (fun i => WzD n c b t D0 o g (rr3 (Option.none) (some (j, T, false)) (some (j, T, false)) i) (j : Int) (i : Nat)) (fun _ => True) ?_ trivial (fun i hi _ => ?_) (fun _ => ?_)
        ·exact (weak_eqA [] [(0, 4), (0, 98), (0, 54)] (WzF c b t D0 (fO o (Option.none)) (fG g (Option.none)) [(13, di (fX (Option.none))), (14, di (j : Int)), (50, di n.segs.length), (51, di (j : Int)), (54, .own (0, 54) 0 0 2), (55, di 2), (56, di (0 : Nat))]) (by refine ⟨?_, ?_, ?_, by simp, ?_⟩ <;> (simp only [↓vp, vv, ↓reduceIte, simprocAttr, coverS, refsF, WzD, WzF, WzG, WzH, rr3, fO, fG, fX, netD, rfH, rfI, hRow, w01, w02, List.map_append, List.length_append, List.length_cons, List.length_nil] <;> try rfl)))
        ·rcases (show i = 0 ∨ i = 1 by omega) with rfl | rfl
         ·simp (maxSteps:=500000) only [↓vp, vv, ↓reduceIte, simprocAttr, c52, r52, c52_1, c52_10, c52_11, c52_12, c52_13, c52_2, c52_3, c52_4, c52_5, c52_6, c52_7, c52_8, c52_9, TWz, selEn, WzD, WzF, WzG, WzH, rr3, fO, fG, fX, netD, hn1, hin0, hin1, ef, et, hjc, hjc', hjn, gc, gU, gT, gb, lU, lT, lU', lT', nU, nT, hbl, hbl', hbn, wd, y1, y2, w01, w02, e2, e3, q4, nw, nw', Bool.not_true, Bool.not_false, Int.toNat_natCast]
          refine rng_next hi ?_ trivial
          exact (weak_eqA [] [(0, 4), (0, 98), (0, 54)] (WzF c b t D0 (fO o (some (j, T, false))) (fG g (some (j, T, false))) [(13, di (fX (some (j, T, false)))), (14, di (j : Int)), (50, di n.segs.length), (51, di (j : Int)), (54, .own (0, 54) 0 0 2), (55, di 2), (56, di (1 : Nat))]) (by refine ⟨?_, ?_, ?_, by simp, ?_⟩ <;> (simp only [↓vp, vv, ↓reduceIte, simprocAttr, coverS, refsF, WzD, WzF, WzG, WzH, rr3, fO, fG, fX, netD, rfH, rfI, hRow, w01, w02, List.map_append, List.length_append, List.length_cons, List.length_nil] <;> try rfl)))
         ·simp (maxSteps:=500000) only [↓vp, vv, ↓reduceIte, simprocAttr, c52, r52, c52_1, c52_10, c52_11, c52_12, c52_13, c52_2, c52_3, c52_4, c52_5, c52_6, c52_7, c52_8, c52_9, TWz, selEn, WzD, WzF, WzG, WzH, rr3, fO, fG, fX, netD, hn1, hin0, hin1, ef, et, hjc, hjc', hjn, gc, gU, gT, gb, lU, lT, lU', lT', nU, nT, hbl, hbl', hbn, wd, y1, y2, w01, w02, e2, e3, q4, nw, nw', Bool.not_true, Bool.not_false, Int.toNat_natCast]
          refine rng_next hi ?_ trivial
          exact (weak_eqA [] [(0, 4), (0, 98), (0, 54)] (WzF c b t D0 (fO o (some (j, T, false))) (fG g (some (j, T, false))) [(13, di (fX (some (j, T, false)))), (14, di (j : Int)), (50, di n.segs.length), (51, di (j : Int)), (54, .own (0, 54) 0 0 2), (55, di 2), (56, di (2 : Nat))]) (by refine ⟨?_, ?_, ?_, by simp, ?_⟩ <;> (simp only [↓vp, vv, ↓reduceIte, simprocAttr, coverS, refsF, WzD, WzF, WzG, WzH, rr3, fO, fG, fX, netD, rfH, rfI, hRow, w01, w02, List.map_append, List.length_append, List.length_cons, List.length_nil] <;> try rfl)))
        ·simp (maxSteps:=500000) only [↓vp, vv, ↓reduceIte, simprocAttr, c52, r52, c52_1, c52_10, c52_11, c52_12, c52_13, c52_2, c52_3, c52_4, c52_5, c52_6, c52_7, c52_8, c52_9, TWz, selEn, WzD, WzF, WzG, WzH, rr3, fO, fG, fX, netD, hn1, hin0, hin1, ef, et, hjc, hjc', hjn, gc, gU, gT, gb, lU, lT, lU', lT', nU, nT, hbl, hbl', hbn, wd, y1, y2, w01, w02, e2, e3, q4, nw, nw', Int.lt_irrefl, Bool.not_true, Bool.not_false, Int.toNat_natCast]
         refine rng_next hj (fin2 (some (j, T, false)) _ pv ?_) trivial
         exact (weak_eqA [] [(0, 4), (0, 98)] (WzF c b t D0 (fO o (some (j, T, false))) (fG g (some (j, T, false))) [(13, di (fX (some (j, T, false)))), (50, di n.segs.length), (51, di ((j + 1 : Nat) : Int))]) (by refine ⟨?_, ?_, ?_, by simp, ?_⟩ <;> (simp only [↓vp, vv, ↓reduceIte, simprocAttr, coverS, refsF, WzS, WzF, WzG, WzH, rr3, fO, fG, fX, netD, rfH, rfI, wj, hRow, List.map_append, List.length_append, List.length_cons, List.length_nil] <;> try rfl)))
       | false =>
        rw [if_neg (by simpa using q4)] at pv
        refine rng_loop 2 (fun i => WzD n c b t D0 o g (rr3 (Option.none) (Option.none) (Option.none) i) (j : Int) (i : Nat)) (fun _ => True) ?_ trivial (fun i hi _ => ?_) (fun _ => ?_)
        ·exact (weak_eqA [] [(0, 4), (0, 98), (0, 54)] (WzF c b t D0 (fO o (Option.none)) (fG g (Option.none)) [(13, di (fX (Option.none))), (14, di (j : Int)), (50, di n.segs.length), (51, di (j : Int)), (54, .own (0, 54) 0 0 2), (55, di 2), (56, di (0 : Nat))]) (by refine ⟨?_, ?_, ?_, by simp, ?_⟩ <;> (simp only [↓vp, vv, ↓reduceIte, simprocAttr, coverS, refsF, WzD, WzF, WzG, WzH, rr3, fO, fG, fX, netD, rfH, rfI, hRow, w01, w02, List.map_append, List.length_append, List.length_cons, List.length_nil] <;> try rfl)))
        ·rcases (show i = 0 ∨ i = 1 by omega) with rfl | rfl
         ·simp (maxSteps:=500000) only [↓vp, vv, ↓reduceIte, simprocAttr, c52, r52, c52_1, c52_10, c52_11, c52_12, c52_13, c52_2, c52_3, c52_4, c52_5, c52_6, c52_7, c52_8, c52_9, TWz, selEn, WzD, WzF, WzG, WzH, rr3, fO, fG, fX, netD, hn1, hin0, hin1, ef, et, hjc, hjc', hjn, gc, gU, gT, gb, lU, lT, lU', lT', nU, nT, hbl, hbl', hbn, wd, y1, y2, w01, w02, e2, e3, q4, Bool.not_true, Bool.not_false, Int.toNat_natCast]
          refine rng_next hi ?_ trivial
          exact (weak_eqA [] [(0, 4), (0, 98), (0, 54)] (WzF c b t D0 (fO o (Option.none)) (fG g (Option.none)) [(13, di (fX (Option.none))), (14, di (j : Int)), (50, di n.segs.length), (51, di (j : Int)), (54, .own (0, 54) 0 0 2), (55, di 2), (56, di (1 : Nat))]) (by refine ⟨?_, ?_, ?_, by simp, ?_⟩ <;> (simp only [↓vp, vv, ↓reduceIte, simprocAttr, coverS, refsF, WzD, WzF, WzG, WzH, rr3, fO, fG, fX, netD, rfH, rfI, hRow, w01, w02, List.map_append, List.length_append, List.length_cons, List.length_nil] <;> try rfl)))
         ·simp (maxSteps:=500000) only [↓vp, vv, ↓reduceIte, simprocAttr, c52, r52, c52_1, c52_10, c52_11, c52_12, c52_13, c52_2, c52_3, c52_4, c52_5, c52_6, c52_7, c52_8, c52_9, TWz, selEn, WzD, WzF, WzG, WzH, rr3, fO, fG, fX, netD, hn1, hin0, hin1, ef, et, hjc, hjc', hjn, gc, gU, gT, gb, lU, lT, lU', lT', nU, nT, hbl, hbl', hbn, wd, y1, y2, w01, w02, e2, e3, q4, Bool.not_true, Bool.not_false, Int.toNat_natCast]
          refine rng_next hi ?_ trivial
          exact (weak_eqA [] [(0, 4), (0, 98), (0, 54)] (WzF c b t D0 (fO o (Option.none)) (fG g (Option.none)) [(13, di (fX (Option.none))), (14, di (j : Int)), (50, di n.segs.length), (51, di (j : Int)), (54, .own (0, 54) 0 0 2), (55, di 2), (56, di (2 : Nat))]) (by refine ⟨?_, ?_, ?_, by simp, ?_⟩ <;> (simp only [↓vp, vv, ↓reduceIte, simprocAttr, coverS, refsF, WzD, WzF, WzG, WzH, rr3, fO, fG, fX, netD, rfH, rfI, hRow, w01, w02, List.map_append, List.length_append, List.length_cons, List.length_nil] <;> try rfl)))
        ·simp (maxSteps:=500000) only [↓vp, vv, ↓reduceIte, simprocAttr, c52, r52, c52_1, c52_10, c52_11, c52_12, c52_13, c52_2, c52_3, c52_4, c52_5, c52_6, c52_7, c52_8, c52_9, TWz, selEn, WzD, WzF, WzG, WzH, rr3, fO, fG, fX, netD, hn1, hin0, hin1, ef, et, hjc, hjc', hjn, gc, gU, gT, gb, lU, lT, lU', lT', nU, nT, hbl, hbl', hbn, wd, y1, y2, w01, w02, e2, e3, q4, Int.lt_irrefl, Bool.not_true, Bool.not_false, Int.toNat_natCast]
         refine rng_next hj (fin2 (Option.none) _ pv ?_) trivial
         exact (weak_eqA [] [(0, 4), (0, 98)] (WzF c b t D0 (fO o (Option.none)) (fG g (Option.none)) [(13, di (fX (Option.none))), (50, di n.segs.length), (51, di ((j + 1 : Nat) : Int))]) (by refine ⟨?_, ?_, ?_, by simp, ?_⟩ <;> (simp only [↓vp, vv, ↓reduceIte, simprocAttr, coverS, refsF, WzS, WzF, WzG, WzH, rr3, fO, fG, fX, netD, rfH, rfI, wj, hRow, List.map_append, List.length_append, List.length_cons, List.length_nil] <;> try rfl)))
      ·have e2 : ((U : Int) == (b : Int)) = false := by rw [beq_eq_false_iff_ne]; omega
       rw [if_neg q2] at pv
       by_cases q3 : T = b
       ·have e3 : ((T : Int) == (b : Int)) = true := by rw [q3]; exact beq_self_eq_true _
        rw [if_pos q3] at pv
        cases q4 : (D0.getD U 0 == D0.getD b 0 - 1) with
        | true =>
         rw [if_pos (by simpa using q4)] at pv
         refine rng_loop 2 (fun i => WzD n c b t D0 o g (rr3 (Option.none) (Option.none) (some (j, U, true)) i) (j : Int) (i : Nat)) (fun _ => True) ?_ trivial (fun i hi _ => ?_) (fun _ => ?_)
         ·exact (weak_eqA [] [(0, 4), (0, 98), (0, 54)] (WzF c b t D0 (fO o (Option.none)) (fG g (Option.none)) [(13, di (fX (Option.none))), (14, di (j : Int)), (50, di n.segs.length), (51, di (j : Int)), (54, .own (0, 54) 0 0 2), (55, di 2), (56, di (0 : Nat))]) (by refine ⟨?_, ?_, ?_, by simp, ?_⟩ <;> (simp only [↓vp, vv, ↓reduceIte, simprocAttr, coverS, refsF, WzD, WzF, WzG, WzH, rr3, fO, fG, fX, netD, rfH, rfI, hRow, w01, w02, List.map_append, List.length_append, List.length_cons, List.length_nil] <;> try rfl)))
         ·rcases (show i = 0 ∨ i = 1 by omega) with rfl | rfl
          ·simp (maxSteps:=500000) only [↓vp, vv, ↓reduceIte, simprocAttr, c52, r52, c52_1, c52_10, c52_11, c52_12, c52_13, c52_2, c52_3, c52_4, c52_5, c52_6, c52_7, c52_8, c52_9, TWz, selEn, WzD, WzF, WzG, WzH, rr3, fO, fG, fX, netD, hn1, hin0, hin1, ef, et, hjc, hjc', hjn, gc, gU, gT, gb, lU, lT, lU', lT', nU, nT, hbl, hbl', hbn, wd, y1, y2, w01, w02, e2, e3, q4, Bool.not_true, Bool.not_false, Int.toNat_natCast]
           refine rng_next hi ?_ trivial
           exact (weak_eqA [] [(0, 4), (0, 98), (0, 54)] (WzF c b t D0 (fO o (Option.none)) (fG g (Option.none)) [(13, di (fX (Option.none))), (14, di (j : Int)), (50, di n.segs.length), (51, di (j : Int)), (54, .own (0, 54) 0 0 2), (55, di 2), (56, di (1 : Nat))]) (by refine ⟨?_, ?_, ?_, by simp, ?_⟩ <;> (simp only [↓vp, vv, ↓reduceIte, simprocAttr, coverS, refsF, WzD, WzF, WzG, WzH, rr3, fO, fG, fX, netD, rfH, rfI, hRow, w01, w02, List.map_append, List.length_append, List.length_cons, List.length_nil] <;> try rfl)))
          ·simp (maxSteps:=500000) only [↓vp, vv, ↓reduceIte, simprocAttr, c52, r52, c52_1, c52_10, c52_11, c52_12, c52_13, c52_2, c52_3, c52_4, c52_5, c52_6, c52_7, c52_8, c52_9, TWz, selEn, WzD, WzF, WzG, WzH, rr3, fO, fG, fX, netD, hn1, hin0, hin1, ef, et, hjc, hjc', hjn, gc, gU, gT, gb, lU, lT, lU', lT', nU, nT, hbl, hbl', hbn, wd, y1, y2, w01, w02, e2, e3, q4, Bool.not_true, Bool.not_false, Int.toNat_natCast]
           refine rng_next hi ?_ trivial
           exact (weak_eqA [] [(0, 4), (0, 98), (0, 54)] (WzF c b t D0 (fO o (some (j, U, true))) (fG g (some (j, U, true))) [(13, di (fX (some (j, U, true)))), (14, di (j : Int)), (50, di n.segs.length), (51, di (j : Int)), (54, .own (0, 54) 0 0 2), (55, di 2), (56, di (2 : Nat))]) (by refine ⟨?_, ?_, ?_, by simp, ?_⟩ <;> (simp only [↓vp, vv, ↓reduceIte, simprocAttr, coverS, refsF, WzD, WzF, WzG, WzH, rr3, fO, fG, fX, netD, rfH, rfI, hRow, w01, w02, List.map_append, List.length_append, List.length_cons, List.length_nil] <;> try rfl)))
         ·simp (maxSteps:=500000) only [↓vp, vv, ↓reduceIte, simprocAttr, c52, r52, c52_1, c52_10, c52_11, c52_12, c52_13, c52_2, c52_3, c52_4, c52_5, c52_6, c52_7, c52_8, c52_9, TWz, selEn, WzD, WzF, WzG, WzH, rr3, fO, fG, fX, netD, hn1, hin0, hin1, ef, et, hjc, hjc', hjn, gc, gU, gT, gb, lU, lT, lU', lT', nU, nT, hbl, hbl', hbn, wd, y1, y2, w01, w02, e2, e3, q4, Int.lt_irrefl, Bool.not_true, Bool.not_false, Int.toNat_natCast]
          refine rng_next hj (fin2 (some (j, U, true)) _ pv ?_) trivial
          exact (weak_eqA [] [(0, 4), (0, 98)] (WzF c b t D0 (fO o (some (j, U, true))) (fG g (some (j, U, true))) [(13, di (fX (some (j, U, true)))), (50, di n.segs.length), (51, di ((j + 1 : Nat) : Int))]) (by refine ⟨?_, ?_, ?_, by simp, ?_⟩ <;> (simp only [↓vp, vv, ↓reduceIte, simprocAttr, coverS, refsF, WzS, WzF, WzG, WzH, rr3, fO, fG, fX, netD, rfH, rfI, wj, hRow, List.map_append, List.length_append, List.length_cons, List.length_nil] <;> try rfl)))
        | false =>
         rw [if_neg (by simpa using q4)] at pv
         refine rng_loop 2 (fun i => WzD n c b t D0 o g (rr3 (Option.none) (Option.none) (Option.none) i) (j : Int) (i : Nat)) (fun _ => True) ?_ trivial (fun i hi _ => ?_) (fun _ => ?_)
         ·exact (weak_eqA [] [(0, 4), (0, 98), (0, 54)] (WzF c b t D0 (fO o (Option.none)) (fG g (Option.none)) [(13, di (fX (Option.none))), (14, di (j : Int)), (50, di n.segs.length), (51, di (j : Int)), (54, .own (0, 54) 0 0 2), (55, di 2), (56, di (0 : Nat))]) (by refine ⟨?_, ?_, ?_, by simp, ?_⟩ <;> (simp only [↓vp, vv, ↓reduceIte, simprocAttr, coverS, refsF, WzD, WzF, WzG, WzH, rr3, fO, fG, fX, netD, rfH, rfI, hRow, w01, w02, List.map_append, List.length_append, List.length_cons, List.length_nil] <;> try rfl)))
         ·rcases (show i = 0 ∨ i = 1 by omega) with rfl | rfl
          ·simp (maxSteps:=500000) only [↓vp, vv, ↓reduceIte, simprocAttr, c52, r52, c52_1, c52_10, c52_11, c52_12, c52_13, c52_2, c52_3, c52_4, c52_5, c52_6, c52_7, c52_8, c52_9, TWz, selEn, WzD, WzF, WzG, WzH, rr3, fO, fG, fX, netD, hn1, hin0, hin1, ef, et, hjc, hjc', hjn, gc, gU, gT, gb, lU, lT, lU', lT', nU, nT, hbl, hbl', hbn, wd, y1, y2, w01, w02, e2, e3, q4, Bool.not_true, Bool.not_false, Int.toNat_natCast]
           refine rng_next hi ?_ trivial
           exact (weak_eqA [] [(0, 4), (0, 98), (0, 54)] (WzF c b t D0 (fO o (Option.none)) (fG g (Option.none)) [(13, di (fX (Option.none))), (14, di (j : Int)), (50, di n.segs.length), (51, di (j : Int)), (54, .own (0, 54) 0 0 2), (55, di 2), (56, di (1 : Nat))]) (by refine ⟨?_, ?_, ?_, by simp, ?_⟩ <;> (simp only [↓vp, vv, ↓reduceIte, simprocAttr, coverS, refsF, WzD, WzF, WzG, WzH, rr3, fO, fG, fX, netD, rfH, rfI, hRow, w01, w02, List.map_append, List.length_append, List.length_cons, List.length_nil] <;> try rfl)))
          ·simp (maxSteps:=500000) only [↓vp, vv, ↓reduceIte, simprocAttr, c52, r52, c52_1, c52_10, c52_11, c52_12, c52_13, c52_2, c52_3, c52_4, c52_5, c52_6, c52_7, c52_8, c52_9, TWz, selEn, WzD, WzF, WzG, WzH, rr3, fO, fG, fX, netD, hn1, hin0, hin1, ef, et, hjc, hjc', hjn, gc, gU, gT, gb, lU, lT, lU', lT', nU, nT, hbl, hbl', hbn, wd, y1, y2, w01, w02, e2, e3, q4, Bool.not_true, Bool.not_false, Int.toNat_natCast]
           refine rng_next hi ?_ trivial
           exact (weak_eqA [] [(0, 4), (0, 98), (0, 54)] (WzF c b t D0 (fO o (Option.none)) (fG g (Option.none)) [(13, di (fX (Option.none))), (14, di (j : Int)), (50, di n.segs.length), (51, di (j : Int)), (54, .own (0, 54) 0 0 2), (55, di 2), (56, di (2 : Nat))]) (by refine ⟨?_, ?_, ?_, by simp, ?_⟩ <;> (simp only [↓vp, vv, ↓reduceIte, simprocAttr, coverS, refsF, WzD, WzF, WzG, WzH, rr3, fO, fG, fX, netD, rfH, rfI, hRow, w01, w02, List.map_append, List.length_append, List.length_cons, List.length_nil] <;> try rfl)))
         ·simp (maxSteps:=500000) only [↓vp, vv, ↓reduceIte, simprocAttr, c52, r52, c52_1, c52_10, c52_11, c52_12, c52_13, c52_2, c52_3, c52_4, c52_5, c52_6, c52_7, c52_8, c52_9, TWz, selEn, WzD, WzF, WzG, WzH, rr3, fO, fG, fX, netD, hn1, hin0, hin1, ef, et, hjc, hjc', hjn, gc, gU, gT, gb, lU, lT, lU', lT', nU, nT, hbl, hbl', hbn, wd, y1, y2, w01, w02, e2, e3, q4, Int.lt_irrefl, Bool.not_true, Bool.not_false, Int.toNat_natCast]
          refine rng_next hj (fin2 (Option.none) _ pv ?_) trivial
          exact (weak_eqA [] [(0, 4), (0, 98)] (WzF c b t D0 (fO o (Option.none)) (fG g (Option.none)) [(13, di (fX (Option.none))), (50, di n.segs.length), (51, di ((j + 1 : Nat) : Int))]) (by refine ⟨?_, ?_, ?_, by simp, ?_⟩ <;> (simp only [↓vp, vv, ↓reduceIte, simprocAttr, coverS, refsF, WzS, WzF, WzG, WzH, rr3, fO, fG, fX, netD, rfH, rfI, wj, hRow, List.map_append, List.length_append, List.length_cons, List.length_nil] <;> try rfl)))
       ·have e3 : ((T : Int) == (b : Int)) = false := by rw [beq_eq_false_iff_ne]; omega
        rw [if_neg q3] at pv
        refine rng_loop 2 (fun i => WzD n c b t D0 o g (rr3 (Option.none) (Option.none) (Option.none) i) (j : Int) (i : Nat)) (fun _ => True) ?_ trivial (fun i hi _ => ?_) (fun _ => ?_)
        ·exact (weak_eqA [] [(0, 4), (0, 98), (0, 54)] (WzF c b t D0 (fO o (Option.none)) (fG g (Option.none)) [(13, di (fX (Option.none))), (14, di (j : Int)), (50, di n.segs.length), (51, di (j : Int)), (54, .own (0, 54) 0 0 2), (55, di 2), (56, di (0 : Nat))]) (by refine ⟨?_, ?_, ?_, by simp, ?_⟩ <;> (simp only [↓vp, vv, ↓reduceIte, simprocAttr, coverS, refsF, WzD, WzF, WzG, WzH, rr3, fO, fG, fX, netD, rfH, rfI, hRow, w01, w02, List.map_append, List.length_append, List.length_cons, List.length_nil] <;> try rfl)))
        ·rcases (show i = 0 ∨ i = 1 by omega) with rfl | rfl
         ·simp (maxSteps:=500000) only [↓vp, vv, ↓reduceIte, simprocAttr, c52, r52, c52_1, c52_10, c52_11, c52_12, c52_13, c52_2, c52_3, c52_4, c52_5, c52_6, c52_7, c52_8, c52_9, TWz, selEn, WzD, WzF, WzG, WzH, rr3, fO, fG, fX, netD, hn1, hin0, hin1, ef, et, hjc, hjc', hjn, gc, gU, gT, gb, lU, lT, lU', lT', nU, nT, hbl, hbl', hbn, wd, y1, y2, w01, w02, e2, e3, Bool.not_true, Bool.not_false, Int.toNat_natCast]
          refine rng_next hi ?_ trivial
          exact (weak_eqA [] [(0, 4), (0, 98), (0, 54)] (WzF c b t D0 (fO o (Option.none)) (fG g (Option.none)) [(13, di (fX (Option.none))), (14, di (j : Int)), (50, di n.segs.length), (51, di (j : Int)), (54, .own (0, 54) 0 0 2), (55, di 2), (56, di (1 : Nat))]) (by refine ⟨?_, ?_, ?_, by simp, ?_⟩ <;> (simp only [↓vp, vv, ↓reduceIte, simprocAttr, coverS, refsF, WzD, WzF, WzG, WzH, rr3, fO, fG, fX, netD, rfH, rfI, hRow, w01, w02, List.map_append, List.length_append, List.length_cons, List.length_nil] <;> try rfl)))
         ·simp (maxSteps:=500000) only [↓vp, vv, ↓reduceIte, simprocAttr, c52, r52, c52_1, c52_10, c52_11, c52_12, c52_13, c52_2, c52_3, c52_4, c52_5, c52_6, c52_7, c52_8, c52_9, TWz, selEn, WzD, WzF, WzG, WzH, rr3, fO, fG, fX, netD, hn1, hin0, hin1, ef, et, hjc, hjc', hjn, gc, gU, gT, gb, lU, lT, lU', lT', nU, nT, hbl, hbl', hbn, wd, y1, y2, w01, w02, e2, e3, Bool.not_true, Bool.not_false, Int.toNat_natCast]
          refine rng_next hi ?_ trivial
          exact (weak_eqA [] [(0, 4), (0, 98), (0, 54)] (WzF c b t D0 (fO o (Option.none)) (fG g (Option.none)) [(13, di (fX (Option.none))), (14, di (j : Int)), (50, di n.segs.length), (51, di (j : Int)), (54, .own (0, 54) 0 0 2), (55, di 2), (56, di (2 : Nat))]) (by refine ⟨?_, ?_, ?_, by simp, ?_⟩ <;> (simp only [↓vp, vv, ↓reduceIte, simprocAttr, coverS, refsF, WzD, WzF, WzG, WzH, rr3, fO, fG, fX, netD, rfH, rfI, hRow, w01, w02, List.map_append, List.length_append, List.length_cons, List.length_nil] <;> try rfl)))
        ·simp (maxSteps:=500000) only [↓vp, vv, ↓reduceIte, simprocAttr, c52, r52, c52_1, c52_10, c52_11, c52_12, c52_13, c52_2, c52_3, c52_4, c52_5, c52_6, c52_7, c52_8, c52_9, TWz, selEn, WzD, WzF, WzG, WzH, rr3, fO, fG, fX, netD, hn1, hin0, hin1, ef, et, hjc, hjc', hjn, gc, gU, gT, gb, lU, lT, lU', lT', nU, nT, hbl, hbl', hbn, wd, y1, y2, w01, w02, e2, e3, Int.lt_irrefl, Bool.not_true, Bool.not_false, Int.toNat_natCast]
         refine rng_next hj (fin2 (Option.none) _ pv ?_) trivial
         exact (weak_eqA [] [(0, 4), (0, 98)] (WzF c b t D0 (fO o (Option.none)) (fG g (Option.none)) [(13, di (fX (Option.none))), (50, di n.segs.length), (51, di ((j + 1 : Nat) : Int))]) (by refine ⟨?_, ?_, ?_, by simp, ?_⟩ <;> (simp only [↓vp, vv, ↓reduceIte, simprocAttr, coverS, refsF, WzS, WzF, WzG, WzH, rr3, fO, fG, fX, netD, rfH, rfI, wj, hRow, List.map_append, List.length_append, List.length_cons, List.length_nil] <;> try rfl)))
    -- INNEREND
   ·rw [List.take_of_length_le (by omega), hp1]
    obtain ⟨q1, ⟨x, q2, q3⟩, q4, q5⟩ := pickF_spec hp1
    obtain ⟨hw, _⟩ := ovr_lt (hE x (List.mem_of_getElem? q2)) q3
    have hwm : D0.getD w1' 0 = m := by omega
    have ho2 : (o ++ [((k1 : Int), b1)]) ++ wayL (n.segs.zip c) D0 m w1' = Z := by
     rw [← ho]
     show _ = o ++ (match pickF D0 b 0 (n.segs.zip c) with | some (k, w, b) => ((k : Int), b) :: wayL (n.segs.zip c) D0 m w | Option.none => [])
     rw [hp1]
     simp
    simp (maxSteps:=500000) only [↓vp, vv, ↓reduceIte, simprocAttr, c52, r52, c52_1, c52_10, c52_11, c52_12, c52_13, c52_2, c52_3, c52_4, c52_5, c52_6, c52_7, c52_8, c52_9, TWz, WzS, WzF, WzH, fO, fG, fX, netD, Int.lt_irrefl]
    exact ⟨m, _, by omega, (weak_eqA [] [(0, 4), (0, 98)] (WzF c w1' t D0 (o ++ [((k1 : Int), b1)]) (g + 1) []) (by refine ⟨?_, ?_, ?_, by simp, ?_⟩ <;> (simp only [↓vp, vv, ↓reduceIte, simprocAttr, coverS, refsF, WzF, WzH, netD, rfH, rfI, hRow, List.map_append, List.length_append, List.length_cons, List.length_nil] <;> try rfl))), w1', o ++ [((k1 : Int), b1)], g + 1, hw, hwm, ho2, rfl⟩
end Go.Proofs.Ytadjhfjiimgddaa
