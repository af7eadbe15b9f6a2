
/- Ways through a network: what the functions return for a network that is valid. -/
import Derived.Test.YtemkjjlpggmolaaRt4
namespace Go.Proofs.Ytemkjjlpggmolaa
open Go
set_option linter.unusedVariables false
set_option linter.unusedSimpArgs false
set_option maxRecDepth 100000

def hRow (h : Int × Bool) : List D := [di h.1, db h.2]
theorem hRow_pl (h : Int × Bool) : ∀ d ∈ hRow h, d.plain = true := fun d hd => by
  rcases List.mem_cons.1 hd with rfl | hd
  · rfl
  · rw [List.mem_singleton.1 hd]; rfl
def selHp : List D → Option (Prop × D)
  | [.agg r, .v (.int .i64 t)] => match gOf1 r with
    | some (n, c) => some (RtV n c ∧ 0 ≤ t ∧ t < n.nodes.length, .sl ((hopsL n c t.toNat).map iRow))
    | _ => Option.none
  | _ => Option.none
theorem tc_hp {T : Tbl} (hT : TblOk Try.prog T) : TblOk Try.prog (tc 124 (rowPu selHp) T) :=
  tc_pu f124_ok (fun args pre d hs hp nn => by
    unfold selHp at hs
    split at hs
    · rename_i r t
      split at hs
      · rename_i n c e1
        cases hs
        obtain ⟨h, h0, h1⟩ := hp
        have := hops_c n c h t.toNat (by omega) nn
        rw [show ((t.toNat : Nat) : Int) = t by omega] at this
        rw [gOf1_eq e1]
        exact this
      · cases hs
    · cases hs) hT
def selGk : List D → Option (Prop × D)
  | [.agg r, .sl rows] => match gOf1 r, lsOf intOf1 rows with
    | some (n, c), some ks => some (NetSz n ∧ ks.length ≤ 1000, di (gchk n c ks))
    | _, _ => Option.none
  | [.agg r, .mt] => match gOf1 r with
    | some (n, c) => some (NetSz n, di (gchk n c []))
    | _ => Option.none
  | _ => Option.none
theorem tc_gk {T : Tbl} (hT : TblOk Try.prog T) : TblOk Try.prog (tc 123 (rowPu selGk) T) :=
  tc_pu f123_ok (fun args pre d hs hp nn => by
    unfold selGk at hs
    split at hs
    · split at hs
      · rename_i e1 e2
        cases hs
        rw [gOf1_eq e1, lsOf_eq (fun r x => intOf1_eq) e2]
        exact gcheck_c _ hp.1 _ _ _ hp.2 (.inl rfl) nn
      · cases hs
    · split at hs
      · rename_i e1
        cases hs
        rw [gOf1_eq e1]
        exact gcheck_c _ hp _ _ [] (by simp) (.inr ⟨rfl, rfl⟩) nn
      · cases hs
    · cases hs) hT
def TWy : Tbl := tc 124 (rowPu selHp) (tc 123 (rowPu selGk) (tc 125 (rowPu selOv) T0))
theorem TWy_ok : TblOk Try.prog TWy := tc_hp (tc_gk (tc_ov (T0_ok _)))
def wayD (n : Net) (c : List Bool) (a t : Nat) : D := if (hopsL n c t).getD a 0 < 0 then .tup [.sl [], di 11] else .tup [.sl ((wayW n c a t).map hRow), di 0]
theorem gchk0 {n : Net} {c : List Bool} (h : RtV n c) {ks : List Int} (hk : ∀ k ∈ ks, 0 ≤ k ∧ k < n.nodes.length) : gchk n c ks = 0 := by
  unfold gchk
  have h1 := h.ck
  have h2 := h.l
  rw [if_neg (by omega), if_neg (by omega), if_neg]
  intro hh
  obtain ⟨k, hm, hu⟩ := List.any_eq_true.1 hh
  have := hk k hm
  unfold unk at hu
  split at hu
  · rename_i h3; simp at h3; omega
  · simp at hu; omega
def WyF (t : Nat) (D0 : List Int) (o : List (Int × Bool)) (g : Nat) (l : List (Nat × D)) : List (Nat × D) := (3, di t) :: (4, .ptr (0, 4) 0 0 0) :: (10, .ptr (0, 10) 0 0 0) :: (12, .sl (D0.map iRow)) :: (13, .own (0, 1000) g 0 o.length) :: l
def WyH (n : Net) (c : List Bool) (o : List (Int × Bool)) (g : Nat) : Hp := ((Hp.none.put (0, 1000) ⟨g, 2, o.map hRow⟩).put (0, 10) ⟨0, 7, [gD n c]⟩).put (0, 4) ⟨0, 6, [netD n]⟩
def WyI (n : Net) (c : List Bool) (t : Nat) (E : List (Seg × Bool)) (D0 : List Int) (Z : List (Int × Bool)) : Nat → St → Prop := fun k s => ∃ a o g, a < n.nodes.length ∧ D0.getD a 0 = k ∧ o ++ wayL E D0 k a = Z ∧ s = ⟨fr (WyF t D0 o g [(14, di (a : Nat))]), WyH n c o g⟩
set_option maxHeartbeats 16000000 in
theorem way_c (n : Net) (c : List Bool) (h : RtV n c) (a t : Nat) (ha : a < n.nodes.length) (ht : t < n.nodes.length) (nn : Nm) : CallsA Try.prog 57 [n.enc, .sl (c.map bRow), di a, di t] Hp.none nn (Pu (wayD n c a t) Hp.none) := by
  obtain ⟨code, h1, h2⟩ := c57_ok
  refine callsA_of TWy_ok mixed (N := fun t => (0, t)) Try.func57 h1 h2 r57_ok [] false js_nil js_nil' (by simp [Try.f57]) ?_
  have hv := h.v
  have hnl := hv.nl
  have hsl := hv.sl
  have hz := h.z
  have hg := gOf1_row n c
  unfold gD at hg
  have hk : gchk n c [(a : Int), (t : Int)] = 0 := gchk0 h fun k hm => by
    rcases List.mem_cons.1 hm with e | e
    · subst e; omega
    · rw [List.mem_singleton.1 e]; omega
  have hks : lsOf intOf1 [[di (a : Int)], [di (t : Int)]] = some [(a : Int), (t : Int)] := rfl
  have ha' : (a : Int) < n.nodes.length := by omega
  have ht' : (t : Int) < n.nodes.length := by omega
  have han := idx_nn a
  have htn := idx_nn t
  have hD := h.ok.isD ht
  have hE := h.ok.s
  have hlt := fun (k : Nat) (hk : k < n.nodes.length) => hD.lt_N hE hk
  have hlo := hD.lo
  have hW : ∀ m : Nat, (hopsL n c t).getD a 0 = m → wayW n c a t = wayL (n.segs.zip c) (hopsL n c t) m a := fun m hm => by unfold wayW; rw [hm]; rfl
  have hWl : 0 ≤ (hopsL n c t).getD a 0 → (wayW n c a t).length ≤ 24 := fun h0 => by
    have := (h.ok.way ha ht h0).2
    have := hlt a ha
    omega
  unfold wayD
  generalize hD0 : hopsL n c t = D0 at *
  generalize wayW n c a t = Z at *
  have hDl := hD.len
  have g1 := iRow_dd D0 a (by omega)
  have al : a < D0.length := by omega
  have al' : (a : Int) < D0.length := by omega
  cases hd : decide (D0.getD a 0 < 0) with
  | true =>
    rw [if_pos (by simpa using hd)]
    simp (config := { maxSteps := 500000 }) only [↓vp, vv, implies_true, forall_const, undef, InI, ↓reduceIte, simprocAttr, c57, c57_8, TWy, selHp, selGk, Net.enc, hD0, hg, h, hz, hk, hks, ha', ht', han, htn, al, al', g1, hd, Int.toNat_natCast, r57, Pu]
  | false =>
    have h0 : 0 ≤ D0.getD a 0 := by simpa using hd
    rw [if_neg (by omega)]
    simp (config := { maxSteps := 500000 }) only [↓vp, vv, implies_true, forall_const, undef, InI, ↓reduceIte, simprocAttr, c57, c57_8, c57_7, TWy, selHp, selGk, Net.enc, hD0, hg, h, hz, hk, hks, ha', ht', han, htn, al, al', g1, hd, Int.toNat_natCast]
    rw [vc_loop]
    obtain ⟨m0, hm0⟩ : ∃ m0 : Nat, D0.getD a 0 = m0 := ⟨(D0.getD a 0).toNat, by omega⟩
    refine ⟨WyI n c t (n.segs.zip c) D0 Z, ⟨m0, _, (weak_own 13 (0, 1000) 2 (by simp (config := { maxSteps := 500000 }) only [↓vp, vv, implies_true, forall_const, undef, InI, ↓reduceIte, simprocAttr, ]) (by simp (config := { maxSteps := 500000 }) only [↓vp, vv, implies_true, forall_const, undef, InI, ↓reduceIte, simprocAttr, ])).trans (weak_eq [] [(0, 4), (0, 10), (0, 1000)] (WyF t D0 [] 0 [(14, di a)]) (by simp (config := { maxSteps := 500000 }) only [↓vp, vv, implies_true, forall_const, undef, InI, ↓reduceIte, simprocAttr, coverS, WyF, WyH, gD, netD, iRow, hRow]) (by simp (config := { maxSteps := 500000 }) only [↓vp, vv, implies_true, forall_const, undef, InI, ↓reduceIte, simprocAttr, refsF, WyF, WyH, gD, netD, iRow, hRow]) (by simp (config := { maxSteps := 500000 }) only [↓vp, vv, implies_true, forall_const, undef, InI, ↓reduceIte, simprocAttr, WyF, WyH, gD, netD, iRow, hRow]) (by simp) (by simp (config := { maxSteps := 500000 }) only [↓vp, vv, implies_true, forall_const, undef, InI, ↓reduceIte, simprocAttr, WyF, WyH, gD, netD, iRow, hRow]; try rfl)), a, [], 0, ha, hm0, by rw [hW m0 hm0]; rfl, rfl⟩, ?_⟩
    rintro k s ⟨b, o, g, hb, hbk, ho, rfl⟩
    have hbn := idx_nn b
    have hZl := hWl h0
    have hol : o.length ≤ 24 := by
      have := congrArg List.length ho
      rw [List.length_append] at this
      omega
    cases k with
    | zero =>
      have hbt : b = t := (hD.z b hb).1 hbk
      have e0 : ((b : Int) != (t : Int)) = false := by rw [hbt]; simp
      have eZ : o = Z := by rw [← ho]; show o = o ++ []; rw [List.append_nil]
      have tk : (o.map hRow).take o.length = o.map hRow := List.take_of_length_le (by simp)
      simp (config := { maxSteps := 500000 }) only [↓vp, vv, implies_true, forall_const, undef, InI, ↓reduceIte, simprocAttr, c57_5, c57_6, WyF, WyH, gD, netD, e0, tk, eZ, r57, Pu]
      exact fun j _ d hd => hRow_pl j d hd
    | succ m =>
      have hbt : ¬ b = t := fun e => by have := (hD.z b hb).2 e; omega
      have e0 : ((b : Int) != (t : Int)) = true := by rw [bne_iff_ne]; omega
      have hzl : (n.segs.zip c).length = n.segs.length := by rw [List.length_zip, h.l]; omega
      have hbl : b < D0.length := by omega
      have hbl' : (b : Int) < D0.length := by omega
      have gb := iRow_dd D0 b hbl
      obtain ⟨k1, w1', b1, hp1⟩ := hD.pick hb hbk
      simp (config := { maxSteps := 500000 }) only [↓vp, vv, implies_true, forall_const, undef, InI, ↓reduceIte, simprocAttr, c57_5, c57_4, WyF, WyH, gD, netD, e0]
      refine rng_loop n.segs.length (fun j => ⟨fr (WyF t D0 o g [(14, di b), (44, di n.segs.length), (45, di (j : Nat))]), WyH n c o g⟩) (fun j => pickF D0 b 0 (n.segs.zip c) = pickF D0 b j ((n.segs.zip c).drop j)) (weak_eq [] [(0, 4), (0, 10), (0, 1000)] (WyF t D0 o g [(14, di b), (44, di n.segs.length), (45, di 0)]) (by simp (config := { maxSteps := 500000 }) only [↓vp, vv, implies_true, forall_const, undef, InI, ↓reduceIte, simprocAttr, coverS, WyF, WyH, gD, netD, iRow, hRow]) (by simp (config := { maxSteps := 500000 }) only [↓vp, vv, implies_true, forall_const, undef, InI, ↓reduceIte, simprocAttr, refsF, WyF, WyH, gD, netD, iRow, hRow]) (by simp (config := { maxSteps := 500000 }) only [↓vp, vv, implies_true, forall_const, undef, InI, ↓reduceIte, simprocAttr, WyF, WyH, gD, netD, iRow, hRow]) (by simp) (by simp (config := { maxSteps := 500000 }) only [↓vp, vv, implies_true, forall_const, undef, InI, ↓reduceIte, simprocAttr, WyF, WyH, gD, netD, iRow, hRow]; try rfl)) rfl (fun j hj hP => ?_) (fun hP => ?_)
      · have hj' : (j : Int) < n.segs.length := by omega
        have hjn := idx_nn j
        have wj := idx_next (j := j) (by omega)
        have hjz : j < (n.segs.zip c).length := by omega
        obtain ⟨x, hx⟩ : ∃ x, (n.segs.zip c)[j]? = some x := ⟨_, List.getElem?_eq_getElem hjz⟩
        have hdr : (n.segs.zip c).drop j = x :: (n.segs.zip c).drop (j + 1) := by
          rw [List.drop_eq_getElem_cons hjz]
          rw [List.getElem?_eq_getElem hjz] at hx
          cases hx
          rfl
        rw [hdr] at hP
        cases e : ovr x b with
        | none =>
          have hP2 : pickF D0 b 0 (n.segs.zip c) = pickF D0 b (j + 1) ((n.segs.zip c).drop (j + 1)) := by rw [hP]; show (match ovr x b with | some (w, b) => _ | Option.none => _) = _; rw [e]
          simp (config := { maxSteps := 500000 }) only [↓vp, vv, implies_true, forall_const, undef, InI, ↓reduceIte, simprocAttr, c57_3, c57_2, c57_1, TWy, selOv, WyF, WyH, gD, netD, hg, h, hj', hjn, hbn, hx, e, ovD, Option.bind_some, Int.toNat_natCast, wj]
          exact rng_next hj (weak_eq [] [(0, 4), (0, 10), (0, 1000)] (WyF t D0 o g [(14, di b), (44, di n.segs.length), (45, di (j + 1 : Nat))]) (by simp (config := { maxSteps := 500000 }) only [↓vp, vv, implies_true, forall_const, undef, InI, ↓reduceIte, simprocAttr, coverS, WyF, WyH, gD, netD, iRow, hRow, wj]) (by simp (config := { maxSteps := 500000 }) only [↓vp, vv, implies_true, forall_const, undef, InI, ↓reduceIte, simprocAttr, refsF, WyF, WyH, gD, netD, iRow, hRow, wj]) (by simp (config := { maxSteps := 500000 }) only [↓vp, vv, implies_true, forall_const, undef, InI, ↓reduceIte, simprocAttr, WyF, WyH, gD, netD, iRow, hRow, wj]) (by simp) (by simp (config := { maxSteps := 500000 }) only [↓vp, vv, implies_true, forall_const, undef, InI, ↓reduceIte, simprocAttr, WyF, WyH, gD, netD, iRow, hRow, wj]; try rfl)) hP2
        | some r =>
          obtain ⟨w, bb⟩ := r
          obtain ⟨hw, _⟩ := ovr_lt (hE x (List.mem_of_getElem? hx)) e
          have hwl : w < D0.length := by omega
          have hwl' : (w : Int) < D0.length := by omega
          have hwn := idx_nn w
          have gw := iRow_dd D0 w hwl
          have l1 := hlt b hb
          have wd : IntKind.i64.wrap (D0.getD b 0 - 1) = D0.getD b 0 - 1 := wrap_i (by omega)
          have hPe : pickF D0 b 0 (n.segs.zip c) = if D0.getD w 0 = D0.getD b 0 - 1 then some (j, w, bb) else pickF D0 b (j + 1) ((n.segs.zip c).drop (j + 1)) := by rw [hP]; show (match ovr x b with | some (w, b) => _ | Option.none => _) = _; rw [e]
          cases hd2 : (D0.getD w 0 == D0.getD b 0 - 1) with
          | false =>
            have hP2 : pickF D0 b 0 (n.segs.zip c) = pickF D0 b (j + 1) ((n.segs.zip c).drop (j + 1)) := by rw [hPe, if_neg (by simpa using hd2)]
            simp (config := { maxSteps := 500000 }) only [↓vp, vv, implies_true, forall_const, undef, InI, ↓reduceIte, simprocAttr, c57_3, c57_2, c57_1, TWy, selOv, WyF, WyH, gD, netD, hg, h, hj', hjn, hbn, hx, e, ovD, Option.bind_some, Int.toNat_natCast, hwl, hwl', hwn, hbl, hbl', gw, gb, wd, hd2, wj]
            exact rng_next hj (weak_eq [] [(0, 4), (0, 10), (0, 1000)] (WyF t D0 o g [(14, di b), (44, di n.segs.length), (45, di (j + 1 : Nat))]) (by simp (config := { maxSteps := 500000 }) only [↓vp, vv, implies_true, forall_const, undef, InI, ↓reduceIte, simprocAttr, coverS, WyF, WyH, gD, netD, iRow, hRow, wj]) (by simp (config := { maxSteps := 500000 }) only [↓vp, vv, implies_true, forall_const, undef, InI, ↓reduceIte, simprocAttr, refsF, WyF, WyH, gD, netD, iRow, hRow, wj]) (by simp (config := { maxSteps := 500000 }) only [↓vp, vv, implies_true, forall_const, undef, InI, ↓reduceIte, simprocAttr, WyF, WyH, gD, netD, iRow, hRow, wj]) (by simp) (by simp (config := { maxSteps := 500000 }) only [↓vp, vv, implies_true, forall_const, undef, InI, ↓reduceIte, simprocAttr, WyF, WyH, gD, netD, iRow, hRow, wj]; try rfl)) hP2
          | true =>
            have hP2 : pickF D0 b 0 (n.segs.zip c) = some (j, w, bb) := by rw [hPe, if_pos (by simpa using hd2)]
            have hwm : D0.getD w 0 = m := by have : D0.getD w 0 = D0.getD b 0 - 1 := by simpa using hd2
                                             omega
            have ho2 : (o ++ [((j : Int), bb)]) ++ wayL (n.segs.zip c) D0 m w = Z := by
              rw [← ho]
              show _ = o ++ (match pickF D0 b 0 (n.segs.zip c) with | some (k, w, b) => ((k : Int), b) :: wayL (n.segs.zip c) D0 m w | Option.none => [])
              rw [hP2]
              simp
            have y1 : (o.length + 1) * 16 ≤ 140737488355328 := by omega
            have y2 : o.length + 1 ≤ 4611686018427387904 := by omega
            simp (config := { maxSteps := 500000 }) only [↓vp, vv, implies_true, forall_const, undef, InI, ↓reduceIte, simprocAttr, c57_3, c57_2, c57_1, TWy, selOv, WyF, WyH, gD, netD, hg, h, hj', hjn, hbn, hx, e, ovD, Option.bind_some, Int.toNat_natCast, hwl, hwl', hwn, hbl, hbl', gw, gb, wd, hd2, y1, y2]
            exact ⟨m, _, by omega, (weak_eq [] [(0, 4), (0, 10), (0, 1000)] (WyF t D0 (o ++ [((j : Int), bb)]) (g + 1) [(14, di w)]) (by simp (config := { maxSteps := 500000 }) only [↓vp, vv, implies_true, forall_const, undef, InI, ↓reduceIte, simprocAttr, coverS, WyF, WyH, gD, netD, iRow, hRow, List.map_append, List.length_append, List.length_cons, List.length_nil]) (by simp (config := { maxSteps := 500000 }) only [↓vp, vv, implies_true, forall_const, undef, InI, ↓reduceIte, simprocAttr, refsF, WyF, WyH, gD, netD, iRow, hRow, List.map_append, List.length_append, List.length_cons, List.length_nil]) (by simp (config := { maxSteps := 500000 }) only [↓vp, vv, implies_true, forall_const, undef, InI, ↓reduceIte, simprocAttr, WyF, WyH, gD, netD, iRow, hRow, List.map_append, List.length_append, List.length_cons, List.length_nil]) (by simp) (by simp (config := { maxSteps := 500000 }) only [↓vp, vv, implies_true, forall_const, undef, InI, ↓reduceIte, simprocAttr, WyF, WyH, gD, netD, iRow, hRow, List.map_append, List.length_append, List.length_cons, List.length_nil]; try rfl)), w, o ++ [((j : Int), bb)], g + 1, hw, hwm, ho2, rfl⟩
      · rw [← hzl, List.drop_length, hp1] at hP
        cases hP
def rlP (A : List Int) (j : Nat) : List Nat := (List.range j).filter fun k => decide (0 ≤ A.getD k 0)
theorem rlP_succ (A : List Int) (j : Nat) : rlP A (j + 1) = if decide (0 ≤ A.getD j 0) = true then rlP A j ++ [j] else rlP A j := by
  unfold rlP
  rw [List.range_succ, List.filter_append, List.filter_cons, List.filter_nil]
  split
  · rfl
  · exact List.append_nil _
theorem rlP_le (A : List Int) (j : Nat) : (rlP A j).length ≤ j := by
  unfold rlP
  exact Nat.le_trans (List.length_filter_le ..) (by simp)
def RlF (A : List Int) (j : Nat) : List (Nat × D) := [(5, .own (0, 1000) (rlP A j).length 0 (rlP A j).length), (10, .sl (A.map iRow)), (11, di A.length), (12, di j)]
def RlH (A : List Int) (j : Nat) : Hp := Hp.none.put (0, 1000) ⟨(rlP A j).length, 1, (rlP A j).map nRow⟩
def THr : Tbl := tc 124 (rowPu selHp) T0
theorem THr_ok : TblOk Try.prog THr := tc_hp (T0_ok _)
set_option maxHeartbeats 8000000 in
theorem greach_c (n : Net) (c : List Bool) (h : RtV n c) (k : Nat) (hk : k < n.nodes.length) (nn : Nm) : CallsA Try.prog 131 [.agg (gD n c), di k] Hp.none nn (Pu (.sl ((rL n c k).map nRow)) Hp.none) := by
  obtain ⟨code, h1, h2⟩ := c131_ok
  refine callsA_of THr_ok mixed (N := fun t => (0, t)) Try.func131 h1 h2 r131_ok [] false js_nil js_nil' (by simp [Try.f131]) ?_
  have hg := gOf1_row n c
  unfold gD at hg
  have hk' : (k : Int) < n.nodes.length := by omega
  have hkn := idx_nn k
  have hlA := (h.ok.isD hk).len
  have hnl := h.v.nl
  have hR : rL n c k = rlP (hopsL n c k) (hopsL n c k).length := by unfold rL rlP; rw [hlA]
  rw [hR]
  simp (config := { maxSteps := 500000 }) only [↓vp, vv, implies_true, forall_const, undef, InI, ↓reduceIte, simprocAttr, c131, THr, selHp, gD, hg, h, hk', hkn, Int.toNat_natCast]
  generalize hopsL n c k = A at hlA
  refine rng_loop A.length (fun j => ⟨fr (RlF A j), RlH A j⟩) (fun _ => True) ((weak_own 5 (0, 1000) 1 (by simp (config := { maxSteps := 500000 }) only [↓vp, vv, implies_true, forall_const, undef, InI, ↓reduceIte, simprocAttr, ]) (by simp (config := { maxSteps := 500000 }) only [↓vp, vv, implies_true, forall_const, undef, InI, ↓reduceIte, simprocAttr, ])).trans (weak_eq [] [(0, 1000)] (RlF A 0) (by simp (config := { maxSteps := 500000 }) only [↓vp, vv, implies_true, forall_const, undef, InI, ↓reduceIte, simprocAttr, coverS, RlF, RlH, nRow, rlP, List.range_zero, List.filter_nil]) (by simp (config := { maxSteps := 500000 }) only [↓vp, vv, implies_true, forall_const, undef, InI, ↓reduceIte, simprocAttr, refsF, RlF, RlH, nRow, rlP, List.range_zero, List.filter_nil]) (by simp (config := { maxSteps := 500000 }) only [↓vp, vv, implies_true, forall_const, undef, InI, ↓reduceIte, simprocAttr, RlF, RlH, nRow, rlP, List.range_zero, List.filter_nil]) (by simp) (by simp (config := { maxSteps := 500000 }) only [↓vp, vv, implies_true, forall_const, undef, InI, ↓reduceIte, simprocAttr, RlF, RlH, nRow, rlP, List.range_zero, List.filter_nil]; try rfl))) trivial (fun j hj _ => ?_) (fun _ => ?_)
  · have hj' : (j : Int) < A.length := by omega
    have hjn := idx_nn j
    have w1 := idx_next (j := j) (by omega)
    have hgg := iRow_dd A j hj
    have d1 := rlP_succ A j
    have l1 := rlP_le A j
    have y1 : ((rlP A j).length + 1) * 8 ≤ 140737488355328 := by omega
    have y2 : (rlP A j).length + 1 ≤ 4611686018427387904 := by omega
    cases hz : decide (0 ≤ A.getD j 0) with
    | true =>
      rw [hz, if_pos rfl] at d1
      simp (config := { maxSteps := 500000 }) only [↓vp, vv, implies_true, forall_const, undef, InI, ↓reduceIte, simprocAttr, c131_3, c131_2, c131_1, RlF, RlH, hj', hjn, Int.toNat_natCast, hgg, hz, w1, y1, y2, nRow]
      exact rng_next hj (weak_eq [] [(0, 1000)] (RlF A (j + 1)) (by simp (config := { maxSteps := 500000 }) only [↓vp, vv, implies_true, forall_const, undef, InI, ↓reduceIte, simprocAttr, coverS, RlF, RlH, nRow, w1, d1, List.map_append, List.length_append, List.length_cons, List.length_nil]) (by simp (config := { maxSteps := 500000 }) only [↓vp, vv, implies_true, forall_const, undef, InI, ↓reduceIte, simprocAttr, refsF, RlF, RlH, nRow, w1, d1, List.map_append, List.length_append, List.length_cons, List.length_nil]) (by simp (config := { maxSteps := 500000 }) only [↓vp, vv, implies_true, forall_const, undef, InI, ↓reduceIte, simprocAttr, RlF, RlH, nRow, w1, d1, List.map_append, List.length_append, List.length_cons, List.length_nil]) (by simp) (by simp (config := { maxSteps := 500000 }) only [↓vp, vv, implies_true, forall_const, undef, InI, ↓reduceIte, simprocAttr, RlF, RlH, nRow, w1, d1, List.map_append, List.length_append, List.length_cons, List.length_nil]; try rfl)) trivial
    | false =>
      rw [hz, if_neg (by simp)] at d1
      simp (config := { maxSteps := 500000 }) only [↓vp, vv, implies_true, forall_const, undef, InI, ↓reduceIte, simprocAttr, c131_3, c131_2, c131_1, RlF, RlH, hj', hjn, Int.toNat_natCast, hgg, hz, w1, nRow]
      exact rng_next hj (weak_eq [] [(0, 1000)] (RlF A (j + 1)) (by simp (config := { maxSteps := 500000 }) only [↓vp, vv, implies_true, forall_const, undef, InI, ↓reduceIte, simprocAttr, coverS, RlF, RlH, nRow, w1, d1]) (by simp (config := { maxSteps := 500000 }) only [↓vp, vv, implies_true, forall_const, undef, InI, ↓reduceIte, simprocAttr, refsF, RlF, RlH, nRow, w1, d1]) (by simp (config := { maxSteps := 500000 }) only [↓vp, vv, implies_true, forall_const, undef, InI, ↓reduceIte, simprocAttr, RlF, RlH, nRow, w1, d1]) (by simp) (by simp (config := { maxSteps := 500000 }) only [↓vp, vv, implies_true, forall_const, undef, InI, ↓reduceIte, simprocAttr, RlF, RlH, nRow, w1, d1]; try rfl)) trivial
  · simp (config := { maxSteps := 500000 }) only [↓vp, vv, implies_true, forall_const, undef, InI, ↓reduceIte, simprocAttr, c131_3, c131_4, r131, RlF, RlH, Int.lt_irrefl, Pu]
    exact fun j _ d hd => by rw [List.mem_singleton.1 hd]; rfl
def selRc : List D → Option (Prop × D)
  | [.agg r, .v (.int .i64 t)] => match gOf1 r with
    | some (n, c) => some (RtV n c ∧ 0 ≤ t ∧ t < n.nodes.length, .sl ((rL n c t.toNat).map nRow))
    | _ => Option.none
  | _ => Option.none
theorem tc_rc {T : Tbl} (hT : TblOk Try.prog T) : TblOk Try.prog (tc 131 (rowPu selRc) T) :=
  tc_pu f131_ok (fun args pre d hs hp nn => by
    unfold selRc at hs
    split at hs
    · rename_i r t
      split at hs
      · rename_i n c e1
        cases hs
        obtain ⟨h, h0, h1⟩ := hp
        have := greach_c n c h t.toNat (by omega) nn
        rw [show ((t.toNat : Nat) : Int) = t by omega] at this
        rw [gOf1_eq e1]
        exact this
      · cases hs
    · cases hs) hT
def TRch : Tbl := tc 131 (rowPu selRc) (tc 123 (rowPu selGk) T0)
theorem TRch_ok : TblOk Try.prog TRch := tc_rc (tc_gk (T0_ok _))
set_option maxHeartbeats 8000000 in
theorem Reach_c (n : Net) (c : List Bool) (h : RtV n c) (k : Nat) (hk : k < n.nodes.length) (nn : Nm) : CallsA Try.prog 62 [n.enc, .sl (c.map bRow), di k] Hp.none nn (Pu (.tup [.sl ((rL n c k).map nRow), di 0]) Hp.none) := by
  obtain ⟨code, h1, h2⟩ := c62_ok
  refine callsA_of TRch_ok mixed (N := fun t => (0, t)) Try.func62 h1 h2 r62_ok [] false js_nil js_nil' (by simp [Try.f62]) ?_
  have hg := gOf1_row n c
  unfold gD at hg
  have hk' : (k : Int) < n.nodes.length := by omega
  have hkn := idx_nn k
  have hz := h.z
  have hk0 : gchk n c [(k : Int)] = 0 := gchk0 h fun x hm => by rw [List.mem_singleton.1 hm]; omega
  have hks : lsOf intOf1 [[di (k : Int)]] = some [(k : Int)] := rfl
  simp (config := { maxSteps := 500000 }) only [↓vp, vv, implies_true, forall_const, undef, InI, ↓reduceIte, simprocAttr, c62, r62, c62_1, TRch, selRc, selGk, Net.enc, hg, h, hz, hk', hkn, hk0, hks, Int.toNat_natCast, r62, Pu]
/-- The parts. -/
def pRow (l : List Nat) : List D := [.sl (l.map nRow)]
def ptP (n : Net) (c : List Bool) (j : Nat) : List (List Nat) := ((List.range j).filter (rootB n c)).map (rL n c)
theorem ptP_succ (n : Net) (c : List Bool) (j : Nat) : ptP n c (j + 1) = if rootB n c j = true then ptP n c j ++ [rL n c j] else ptP n c j := by
  unfold ptP
  rw [List.range_succ, List.filter_append, List.filter_cons, List.filter_nil]
  split
  · rw [List.map_append]; rfl
  · rw [List.append_nil]
theorem ptP_le (n : Net) (c : List Bool) (j : Nat) : (ptP n c j).length ≤ j := by
  unfold ptP
  rw [List.length_map]
  exact Nat.le_trans (List.length_filter_le ..) (by simp)
def PtF (n : Net) (c : List Bool) (j : Nat) : List (Nat × D) := [(6, .ptr (0, 6) 0 0 0), (8, .own (0, 1000) (ptP n c j).length 0 (ptP n c j).length), (21, di n.nodes.length), (22, di j)]
def PtH (n : Net) (c : List Bool) (j : Nat) : Hp := (Hp.none.put (0, 1000) ⟨(ptP n c j).length, 1, (ptP n c j).map pRow⟩).put (0, 6) ⟨0, 7, [gD n c]⟩
theorem rL_first {n : Net} {c : List Bool} (h : RtV n c) {k : Nat} (hk : k < n.nodes.length) : 0 < (rL n c k).length ∧ ((rL n c k).map nRow).getD 0 [] = [di ((rL n c k).getD 0 0 : Nat)] := by
  have : k ∈ rL n c k := (h.ok.mem_rL hk).2 ⟨hk, 0, .nil k⟩
  cases e : rL n c k with
  | nil => rw [e] at this; cases this
  | cons a l => exact ⟨by simp, rfl⟩
set_option maxHeartbeats 8000000 in
theorem Parts_c (n : Net) (c : List Bool) (h : RtV n c) (nn : Nm) : CallsA Try.prog 65 [n.enc, .sl (c.map bRow)] Hp.none nn (Pu (.tup [.sl ((partsL n c).map pRow), di 0]) Hp.none) := by
  obtain ⟨code, h1, h2⟩ := c65_ok
  refine callsA_of TRch_ok mixed (N := fun t => (0, t)) Try.func65 h1 h2 r65_ok [] false js_nil js_nil' (by simp [Try.f65]) ?_
  have hg := gOf1_row n c
  unfold gD at hg
  have hz := h.z
  have hnl := h.v.nl
  have hk0 : gchk n c [] = 0 := gchk0 h fun x hm => by cases hm
  have hR : partsL n c = ptP n c n.nodes.length := rfl
  have hks : lsOf intOf1 [] = some [] := rfl
  rw [hR]
  simp (config := { maxSteps := 500000 }) only [↓vp, vv, implies_true, forall_const, undef, InI, ↓reduceIte, simprocAttr, c65, c65_5, TRch, selRc, selGk, Net.enc, hg, h, hz, hk0, hks]
  refine rng_loop n.nodes.length (fun j => ⟨fr (PtF n c j), PtH n c j⟩) (fun _ => True) ?_ trivial (fun j hj _ => ?_) (fun _ => ?_)
  · exact ((weak_own 8 (0, 1000) 1 (by simp (config := { maxSteps := 500000 }) only [↓vp, vv, implies_true, forall_const, undef, InI, ↓reduceIte, simprocAttr, ]) (by simp (config := { maxSteps := 500000 }) only [↓vp, vv, implies_true, forall_const, undef, InI, ↓reduceIte, simprocAttr, ])).trans (weak_eq [] [(0, 6), (0, 1000)] (PtF n c 0) (by simp (config := { maxSteps := 500000 }) only [↓vp, vv, implies_true, forall_const, undef, InI, ↓reduceIte, simprocAttr, coverS, PtF, PtH, gD, pRow, ptP, List.range_zero, List.filter_nil, List.map_nil, List.length_nil]) (by simp (config := { maxSteps := 500000 }) only [↓vp, vv, implies_true, forall_const, undef, InI, ↓reduceIte, simprocAttr, refsF, PtF, PtH, gD, pRow, ptP, List.range_zero, List.filter_nil, List.map_nil, List.length_nil]) (by simp (config := { maxSteps := 500000 }) only [↓vp, vv, implies_true, forall_const, undef, InI, ↓reduceIte, simprocAttr, PtF, PtH, gD, pRow, ptP, List.range_zero, List.filter_nil, List.map_nil, List.length_nil]) (by simp) (by simp (config := { maxSteps := 500000 }) only [↓vp, vv, implies_true, forall_const, undef, InI, ↓reduceIte, simprocAttr, PtF, PtH, gD, pRow, ptP, List.range_zero, List.filter_nil, List.map_nil, List.length_nil]; try rfl)))
  · have hj' : (j : Int) < n.nodes.length := by omega
    have hjn := idx_nn j
    have w1 := idx_next (j := j) (by omega)
    obtain ⟨f1, f2⟩ := rL_first h hj
    have f1' : (0 : Int) < (rL n c j).length := by omega
    have d1 := ptP_succ n c j
    have l1 := ptP_le n c j
    have y1 : ((ptP n c j).length + 1) * 24 ≤ 140737488355328 := by omega
    have y2 : (ptP n c j).length + 1 ≤ 4611686018427387904 := by omega
    have hb : (((rL n c j).getD 0 0 : Nat) == j) = rootB n c j := rfl
    have hb' : ((((rL n c j).getD 0 0 : Nat) : Int) == (j : Int)) = rootB n c j := by
      rw [← hb, Bool.eq_iff_iff, beq_iff_eq, beq_iff_eq]; omega
    cases hr : rootB n c j with
    | true =>
      rw [hr] at hb'
      rw [hr, if_pos rfl] at d1
      simp (config := { maxSteps := 500000 }) only [↓vp, vv, implies_true, forall_const, undef, InI, ↓reduceIte, simprocAttr, c65_3, c65_2, c65_1, TRch, selRc, PtF, PtH, gD, hg, h, hj', hjn, Int.toNat_natCast, f1, f1', f2, hb', w1, y1, y2, pRow]
      exact rng_next hj (weak_eq [] [(0, 6), (0, 1000)] (PtF n c (j + 1)) (by simp (config := { maxSteps := 500000 }) only [↓vp, vv, implies_true, forall_const, undef, InI, ↓reduceIte, simprocAttr, coverS, PtF, PtH, gD, pRow, w1, d1, List.map_append, List.length_append, List.length_cons, List.length_nil]) (by simp (config := { maxSteps := 500000 }) only [↓vp, vv, implies_true, forall_const, undef, InI, ↓reduceIte, simprocAttr, refsF, PtF, PtH, gD, pRow, w1, d1, List.map_append, List.length_append, List.length_cons, List.length_nil]) (by simp (config := { maxSteps := 500000 }) only [↓vp, vv, implies_true, forall_const, undef, InI, ↓reduceIte, simprocAttr, PtF, PtH, gD, pRow, w1, d1, List.map_append, List.length_append, List.length_cons, List.length_nil]) (by simp) (by simp (config := { maxSteps := 500000 }) only [↓vp, vv, implies_true, forall_const, undef, InI, ↓reduceIte, simprocAttr, PtF, PtH, gD, pRow, w1, d1, List.map_append, List.length_append, List.length_cons, List.length_nil]; try rfl)) trivial
    | false =>
      rw [hr] at hb'
      rw [hr, if_neg (by simp)] at d1
      simp (config := { maxSteps := 500000 }) only [↓vp, vv, implies_true, forall_const, undef, InI, ↓reduceIte, simprocAttr, c65_3, c65_2, c65_1, TRch, selRc, PtF, PtH, gD, hg, h, hj', hjn, Int.toNat_natCast, f1, f1', f2, hb', w1, pRow]
      exact rng_next hj (weak_eq [] [(0, 6), (0, 1000)] (PtF n c (j + 1)) (by simp (config := { maxSteps := 500000 }) only [↓vp, vv, implies_true, forall_const, undef, InI, ↓reduceIte, simprocAttr, coverS, PtF, PtH, gD, pRow, w1, d1]) (by simp (config := { maxSteps := 500000 }) only [↓vp, vv, implies_true, forall_const, undef, InI, ↓reduceIte, simprocAttr, refsF, PtF, PtH, gD, pRow, w1, d1]) (by simp (config := { maxSteps := 500000 }) only [↓vp, vv, implies_true, forall_const, undef, InI, ↓reduceIte, simprocAttr, PtF, PtH, gD, pRow, w1, d1]) (by simp) (by simp (config := { maxSteps := 500000 }) only [↓vp, vv, implies_true, forall_const, undef, InI, ↓reduceIte, simprocAttr, PtF, PtH, gD, pRow, w1, d1]; try rfl)) trivial
  · simp (config := { maxSteps := 500000 }) only [↓vp, vv, implies_true, forall_const, undef, InI, ↓reduceIte, simprocAttr, c65_3, c65_4, r65, PtF, PtH, gD, Int.lt_irrefl, Pu]
    exact fun j _ d hd => by rw [List.mem_singleton.1 hd]; rfl
def selCl : List D → Option (Prop × (Nm → D) × (Nm → Hp))
  | [.sl rows] => match lsOf boolOf1 rows with
    | some c => some (1 ≤ c.length ∧ c.length ≤ 1000000, fun nn => .own nn 1 0 c.length, fun nn => Hp.none.put nn ⟨1, 1, c.map bRow⟩)
    | _ => Option.none
  | _ => Option.none
theorem tc_cl {T : Tbl} (hT : TblOk Try.prog T) : TblOk Try.prog (tc 132 (rowOwn selCl) T) :=
  tc_own f132_ok (fun args pre d H hs hp nn => by
    unfold selCl at hs
    split at hs
    · split at hs
      · rename_i c e
        cases hs
        rw [lsOf_eq (fun r x => boolOf1_eq) e]
        exact Clone_c c hp nn
      · cases hs
    · cases hs) hT
def TCu : Tbl := tc 132 (rowOwn selCl) (tc 124 (rowPu selHp) (tc 123 (rowPu selGk) T0))
theorem TCu_ok : TblOk Try.prog TCu := tc_cl (tc_hp (tc_gk (T0_ok _)))
/-- Is a segment open, and does closing it part its ends? -/
def cutB (n : Net) (c : List Bool) (k : Nat) : Bool := if c.getD k false = true then false else match n.segs[k]? with
  | some s => decide ((hopsL n (c.set k true) s.fr.toNat).getD s.to.toNat 0 < 0)
  | Option.none => false
theorem RtV.set {n : Net} {c : List Bool} (h : RtV n c) (k : Nat) : RtV n (c.set k true) := ⟨h.z, h.ck, by rw [List.length_set]; exact h.l⟩
theorem bRow_g1 (R : List Bool) (j : Nat) (h : j < R.length) : (R.map bRow).getD j [] = [db R[j]] := by rw [getD_map bRow R j h]; rfl
set_option maxHeartbeats 8000000 in
theorem Cuts_c (n : Net) (c : List Bool) (h : RtV n c) (k : Nat) (hk : k < n.segs.length) (nn : Nm) : CallsA Try.prog 66 [n.enc, .sl (c.map bRow), di k] Hp.none nn (Pu (.tup [db (cutB n c k), di 0]) Hp.none) := by
  obtain ⟨code, h1, h2⟩ := c66_ok
  refine callsA_of TCu_ok mixed (N := fun t => (0, t)) Try.func66 h1 h2 r66_ok [] false js_nil js_nil' (by simp [Try.f66]) ?_
  have hg := gOf1_row n c
  unfold gD at hg
  have hg2 := gOf1_row n (c.set k true)
  unfold gD at hg2
  have hz := h.z
  have hsl := h.v.sl
  have hl := h.l
  have hk0 : gchk n c [] = 0 := gchk0 h fun x hm => by cases hm
  have hks : lsOf intOf1 [] = some [] := rfl
  have hb1 : lsOf boolOf1 (c.map bRow) = some c := lsOf_map boolOf1_row c
  have q1 : 1 ≤ c.length := by omega
  have q2 : c.length ≤ 1000000 := by omega
  have tk : (c.map bRow).take c.length = c.map bRow := List.take_of_length_le (by simp)
  have hkc : k < c.length := by omega
  have hkc' : (k : Int) < c.length := by omega
  have hks' : (k : Int) < n.segs.length := by omega
  have hkn := idx_nn k
  have e1 : decide ((k : Int) < 0) = false := decide_eq_false (by omega)
  have e2 : decide ((k : Int) ≥ n.segs.length) = false := decide_eq_false (by omega)
  have gc := bRow_g1 c k hkc
  have hc0 : c.getD k false = c[k] := by rw [List.getD_eq_getElem?_getD, List.getElem?_eq_getElem hkc]; rfl
  unfold cutB
  rw [hc0]
  cases hb : c[k] with
  | true =>
    rw [hb] at gc
    simp (config := { maxSteps := 500000 }) only [↓vp, vv, implies_true, forall_const, undef, InI, ↓reduceIte, simprocAttr, c66, r66, c66_1, c66_2, c66_3, r66, TCu, rowOwn, selCl, selHp, selGk, Net.enc, hg, h, hz, hk0, hks, hb1, q1, q2, tk, hkc, hkc', hks', hkn, e1, e2, gc, Int.toNat_natCast, Pu]
    exact fun j _ d hd => by rw [List.mem_singleton.1 hd]; rfl
  | false =>
    rw [hb] at gc
    have gs := getD_map Seg.row n.segs k hk
    have hsk := List.getElem?_eq_getElem hk
    have hv := h.v.se n.segs[k] (List.getElem_mem hk)
    generalize n.segs[k] = s at gs hsk hv
    have v1 := hv.1.1
    have v2 := hv.1.2
    have hset := h.set k
    have hl2 := (hset.ok.isD (t := s.fr.toNat) (by omega)).len
    have st1 : (c.map bRow).set k [db true] = (c.set k true).map bRow := (List.map_set ..).symm
    rw [hsk, if_neg (by simp)]
    dsimp only
    generalize hA : hopsL n (c.set k true) s.fr.toNat = A at hl2
    have tk2 : ((c.set k true).map bRow).take c.length = (c.set k true).map bRow := List.take_of_length_le (by simp)
    have t1 : s.to.toNat < A.length := by omega
    have t1' : s.to < A.length := by omega
    have t0 := hv.2.1.1
    have gA := iRow_dd A s.to.toNat t1
    simp (config := { maxSteps := 500000 }) only [↓vp, vv, implies_true, forall_const, undef, InI, ↓reduceIte, simprocAttr, c66, r66, c66_1, c66_2, c66_3, r66, TCu, rowOwn, selCl, selHp, selGk, Net.enc, hg, h, hz, hk0, hks, hb1, q1, q2, tk, hkc, hkc', hks', hkn, e1, e2, gc, Int.toNat_natCast, gs, Seg.row, bRow, st1, hg2, hset, v1, v2, hA, tk2, t1, t1', t0, gA, Pu]
    rw [List.length_set]; exact Nat.le_refl _
end Go.Proofs.Ytemkjjlpggmolaa
