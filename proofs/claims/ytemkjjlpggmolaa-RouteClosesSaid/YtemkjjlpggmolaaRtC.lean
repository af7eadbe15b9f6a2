
/- RouteCloses: the walk. -/
import Derived.Test.YtemkjjlpggmolaaRtB
namespace Go.Proofs.Ytemkjjlpggmolaa
open Go
set_option linter.unusedVariables false
set_option linter.unusedSimpArgs false
set_option maxRecDepth 100000

theorem close_cases {n : Net} {c : List Bool} (h : RtV n c) {a b : Nat} (ha : a < n.nodes.length) (hb : b < n.nodes.length) (x : Nat) : ∃ (w v : List (Int × Bool)) (e f : Int), wayD n c a b = .tup [.sl (w.map hRow), di e] ∧ wayD n (c.set x true) a b = .tup [.sl (v.map hRow), di f] ∧ w.length ≤ 24 ∧ v.length ≤ 24 ∧
    ((e = 11 ∧ f = 11) ∨ (e = 0 ∧ (((w.any fun y => y.1 == (x : Int)) = false ∧ f = 0 ∧ v = w) ∨ ((w.any fun y => y.1 == (x : Int)) = true ∧ f = 11) ∨ ((w.any fun y => y.1 == (x : Int)) = true ∧ f = 0 ∧ w.length ≤ v.length)))) := by
  have h' := h.set x
  have hlt := (h.ok.isD hb).lt_N h.ok.s ha
  have hlt' := (h'.ok.isD hb).lt_N h'.ok.s ha
  have hnl := h.v.nl
  have far := shut_far h.ok x ha hb
  unfold wayD
  by_cases h0 : (hopsL n c b).getD a 0 < 0
  · rw [if_pos h0, if_pos (by omega)]
    exact ⟨[], [], 11, 11, rfl, rfl, by simp, by simp, .inl ⟨rfl, rfl⟩⟩
  · rw [if_neg h0]
    have w1 := h.ok.way ha hb (by omega)
    cases ho : (wayW n c a b).any fun y => y.1 == (x : Int) with
    | false =>
      have hn : ∀ y ∈ wayW n c a b, y.1 ≠ (x : Int) := fun y hy e => by
        have := List.any_eq_false.1 ho y hy
        simp [e] at this
      have same := shut_same h.ok x ha hb (by omega) hn
      rw [if_neg (by omega)]
      exact ⟨_, _, 0, 0, rfl, rfl, by omega, by rw [same.2]; omega, .inr ⟨rfl, .inl ⟨ho, rfl, same.2⟩⟩⟩
    | true =>
      by_cases h1 : (hopsL n (c.set x true) b).getD a 0 < 0
      · rw [if_pos h1]
        exact ⟨_, [], 0, 11, rfl, rfl, by omega, by simp, .inr ⟨rfl, .inr (.inl ⟨ho, rfl⟩)⟩⟩
      · rw [if_neg h1]
        have w2 := h'.ok.way ha hb (by omega)
        have := far (by omega)
        exact ⟨_, _, 0, 0, rfl, rfl, by omega, by omega, .inr ⟨rfl, .inr (.inr ⟨ho, rfl, by omega⟩)⟩⟩
theorem bRow_nn (c : List Bool) (k : Nat) (h : k < c.length) : (c.map bRow).getD k [] = bRow (c.getD k false) := by rw [getD_map bRow c k h, List.getD_eq_getElem?_getD, List.getElem?_eq_getElem h]; rfl
def RcF (w v : List (Int × Bool)) (f : Int) (x : Nat) (o : Bool) (l : List (Nat × D)) : List (Nat × D) := (13, di x) :: (16, .sl (w.map hRow)) :: (18, .sl (v.map hRow)) :: (19, di f) :: (20, db o) :: (78, .sl (w.map hRow)) :: (79, di w.length) :: l
def anyT (x : Nat) (w : List (Int × Bool)) : Bool := w.any fun y => y.1 == (x : Int)
theorem anyT_tk (x : Nat) {w : List (Int × Bool)} {j : Nat} (h : j < w.length) : anyT x (w.take (j + 1)) = (anyT x (w.take j) || w[j].1 == (x : Int)) := by
  unfold anyT
  rw [← List.take_append_getElem h, List.any_append]
  simp
set_option maxHeartbeats 8000000 in
theorem rc_1 (w v : List (Int × Bool)) (f : Int) (x : Nat) (hw : w.length ≤ 24) (hv : v.length ≤ 24) (hcs : ((w.any fun y => y.1 == (x : Int)) = false ∧ f = 0 ∧ v = w) ∨ ((w.any fun y => y.1 == (x : Int)) = true ∧ f = 11) ∨ ((w.any fun y => y.1 == (x : Int)) = true ∧ f = 0 ∧ w.length ≤ v.length)) (F : Fr) (H : Hp)
    (hwk : Weak [] ⟨F, H⟩ ⟨fr [(13, di x), (16, .sl (w.map hRow)), (18, .sl (v.map hRow)), (19, di f)], Hp.none⟩) : vc (TRl Try.prog) (fun t => (0, t)) [] (.weak c11_5) (finQ r11 [] false (Pu (db true) Hp.none)) ⟨F, H⟩ := by
  refine vc_wk hwk ?_
  simp (config := { maxSteps := 500000 }) only [↓vp, vv, implies_true, forall_const, undef, InI, ↓reduceIte, simprocAttr, c11_5]
  refine rng_loop w.length (fun j => ⟨fr (RcF w v f x (anyT x (w.take j)) [(80, di (j : Nat))]), Hp.none⟩) (fun _ => True) (weak0 (by simp (config := { maxSteps := 500000 }) only [↓vp, vv, implies_true, forall_const, undef, InI, ↓reduceIte, simprocAttr, coverS, RcF, List.take_zero, anyT, List.any_nil]) (by simp (config := { maxSteps := 500000 }) only [↓vp, vv, implies_true, forall_const, undef, InI, ↓reduceIte, simprocAttr, refsF, RcF])) trivial (fun j hj _ => ?_) (fun _ => ?_)
  · have hj' : (j : Int) < w.length := by omega
    have hjn := idx_nn j
    have w1 := idx_next (j := j) (by omega)
    have gw := hRow_g w j hj
    have ht := anyT_tk x hj
    generalize anyT x (w.take j) = o at ht
    generalize w[j] = y at gw ht
    obtain ⟨k1, k2⟩ := y
    dsimp only at ht
    cases o with
    | true =>
      rw [Bool.true_or] at ht
      simp (config := { maxSteps := 500000 }) only [↓vp, vv, implies_true, forall_const, undef, InI, ↓reduceIte, simprocAttr, c11_2, c11_1, RcF, hj', hjn, Int.toNat_natCast, gw, hRow, w1]
      exact rng_next hj (weak0 (by simp (config := { maxSteps := 500000 }) only [↓vp, vv, implies_true, forall_const, undef, InI, ↓reduceIte, simprocAttr, coverS, RcF, ht, w1]) (by simp (config := { maxSteps := 500000 }) only [↓vp, vv, implies_true, forall_const, undef, InI, ↓reduceIte, simprocAttr, refsF, RcF])) trivial
    | false =>
      rw [Bool.false_or] at ht
      simp (config := { maxSteps := 500000 }) only [↓vp, vv, implies_true, forall_const, undef, InI, ↓reduceIte, simprocAttr, c11_2, c11_1, RcF, hj', hjn, Int.toNat_natCast, gw, hRow, w1]
      exact rng_next hj (weak0 (by simp (config := { maxSteps := 500000 }) only [↓vp, vv, implies_true, forall_const, undef, InI, ↓reduceIte, simprocAttr, coverS, RcF, ht, w1]) (by simp (config := { maxSteps := 500000 }) only [↓vp, vv, implies_true, forall_const, undef, InI, ↓reduceIte, simprocAttr, refsF, RcF])) trivial
  · rw [List.take_length]
    have hw1 : lsOf hopOf1 (w.map hRow) = some w := lsOf_map hopOf1_row w
    have hv1 : lsOf hopOf1 (v.map hRow) = some v := lsOf_map hopOf1_row v
    have l1 : w.length ≤ 1000000 := by omega
    have l2 : v.length ≤ 1000000 := by omega
    rcases hcs with ⟨ho, rfl, rfl⟩ | ⟨ho, rfl⟩ | ⟨ho, rfl, hvw⟩
    · have ho' : anyT x v = false := ho
      simp (config := { maxSteps := 500000 }) only [↓vp, vv, implies_true, forall_const, undef, InI, ↓reduceIte, simprocAttr, c11_2, c11_4, TRl, TRa, selSm, selAw, r11, RcF, Int.lt_irrefl, ho', hw1, l1, Pu]
    · have ho' : anyT x w = true := ho
      simp (config := { maxSteps := 500000 }) only [↓vp, vv, implies_true, forall_const, undef, InI, ↓reduceIte, simprocAttr, c11_2, c11_4, c11_3, TRl, TRa, selSm, selAw, r11, RcF, Int.lt_irrefl, ho', Pu]
    · have ho' : anyT x w = true := ho
      have hvw' : (w.length : Int) ≤ v.length := by omega
      simp (config := { maxSteps := 500000 }) only [↓vp, vv, implies_true, forall_const, undef, InI, ↓reduceIte, simprocAttr, c11_2, c11_4, c11_3, TRl, TRa, selSm, selAw, r11, RcF, Int.lt_irrefl, ho', hvw', Pu]
set_option maxHeartbeats 8000000 in
theorem RC_c (ns : List Int) (hns : ∀ n ∈ ns, InI n) (i k s : Nat) (hi : i < 256) (hk : k < 256) (hs : s < 256) (nn : Nm) : CallsA Try.prog 11 [.sl (ns.map fun n => [di n]), .v (.int .u8 i), .v (.int .u8 k), .v (.int .u8 s)] Hp.none nn (Pu (db true) Hp.none) := by
  obtain ⟨code, h1, h2⟩ := c11_ok
  refine callsA_of TRl_ok mixed (N := fun t => (0, t)) Try.func11 h1 h2 r11_ok [] false js_nil js_nil' (by simp [Try.f11]) ?_
  have ho : SrcOk ((ns.map fun n => [di n]).take 2000) 0 := src_new ns hns
  simp (config := { maxSteps := 500000 }) only [↓vp, vv, implies_true, forall_const, undef, InI, ↓reduceIte, simprocAttr, c11, TRl, rowNew, sel0, selClo, ho, Net.enc]
  intro a1 n hn
  have hck := check_ok hn
  have hsl := hn.slen
  have hnl := hn.nlen
  have hn1 : netOf1 [D.sl (n.nodes.map nmRow), .sl (n.segs.map Seg.row), .sl (n.ports.map Port.row), .sl (n.sts.map Stn.row), di n.vap, di n.set] = some n := netOf1_row n
  have s1 : n.segs.length ≤ 1000 := by omega
  have wi : IntKind.i64.wrap (i : Int) = i := wrap_i (by omega)
  have wk : IntKind.i64.wrap (k : Int) = k := wrap_i (by omega)
  have ws : IntKind.i64.wrap (s : Int) = s := wrap_i (by omega)
  have mi := mod_i (i := i) (m := n.nodes.length)
  have mk := mod_i (i := k) (m := n.nodes.length)
  have la : i % n.nodes.length < n.nodes.length := Nat.mod_lt _ (by omega)
  have lb : k % n.nodes.length < n.nodes.length := Nat.mod_lt _ (by omega)
  have z0 : ¬ (n.nodes.length : Int) = 0 := by omega
  simp (config := { maxSteps := 500000 }) only [↓vp, vv, implies_true, forall_const, undef, InI, ↓reduceIte, simprocAttr, TRl, selClo, hn1, s1, a1.2, netD]
  intro a2 c hc
  have hr : RtV n c := RtV.gen hn hc
  have hcl : c.length = n.segs.length := hc
  have hc1 : lsOf boolOf1 (c.map bRow) = some c := lsOf_map boolOf1_row c
  have ms := mod_i (i := s) (m := c.length)
  have lc : s % c.length < c.length := Nat.mod_lt _ (by omega)
  have z1 : ¬ (c.length : Int) = 0 := by omega
  obtain ⟨w, v, e, f, hA, hB, hw, hv, hcase⟩ := close_cases hr la lb (s % c.length)
  generalize i % n.nodes.length = a at *
  generalize k % n.nodes.length = b at *
  generalize s % c.length = x at *
  have lx : (x : Int) < c.length := by omega
  have lx0 := idx_nn x
  have p1 : WyPre n c a b := ⟨hr, by omega, by omega⟩
  have p2 : WyPre n (c.set x true) a b := ⟨hr.set x, by omega, by omega⟩
  have hc2 : lsOf boolOf1 ((c.set x true).map bRow) = some (c.set x true) := lsOf_map boolOf1_row _
  have eS : (c.map bRow).set x [db true] = (c.set x true).map bRow := (List.map_set ..).symm
  have y0 : 0 < c.length := by omega
  have y1 : c.length * 1 ≤ 140737488355328 := by omega
  have y2 : c.length ≤ 4611686018427387904 := by omega
  have e1 : (∀ j ∈ c, (bRow j).length = 1) = True := eq_true fun _ _ => rfl
  have gx := bRow_nn c x lc
  have e2 : (∀ j ∈ c.set x true, ∀ d ∈ bRow j, d.plain = true) = True := eq_true fun _ _ d hd => by rw [List.mem_singleton.1 hd]; rfl
  have e3 : (c.set x true).length = c.length := List.length_set
  have e4 : (bRow (c.getD x false)).set 0 (D.v (.bool true)) = [db true] := rfl
  have e5 : (bRow (c.getD x false)).length = 1 := rfl
  have tk : ((c.set x true).map bRow).take c.length = (c.set x true).map bRow := List.take_of_length_le (by simp)
  generalize bRow (c.getD x false) = q at gx e4 e5
  rcases hcase with ⟨rfl, rfl⟩ | ⟨rfl, hcs⟩
  · simp (config := { maxSteps := 500000 }) only [↓vp, vv, implies_true, forall_const, undef, InI, ↓reduceIte, simprocAttr, TRl, TRa, selN2, selAw, r11, c11_6, hn1, hc1, hc2, p1, p2, hA, hB, ws, ms, lx, lx0, lc, z1, e1, gx, e2, e3, e4, e5, tk, eS, wi, wk, mi, mk, z0, y0, y1, y2, netD, Int.toNat_natCast, Pu]
  · have nx := rc_1 w v f x hw hv hcs
    simp (config := { maxSteps := 500000 }) only [↓vp, vv, implies_true, forall_const, undef, InI, ↓reduceIte, simprocAttr, TRl, TRa, selN2, c11_6, hn1, hc1, hc2, p1, p2, hA, hB, ws, ms, lx, lx0, lc, z1, e1, gx, e2, e3, e4, e5, tk, eS, wi, wk, mi, mk, z0, y0, y1, y2, netD, Int.toNat_natCast]
    exact nx _ _ (weak_eq [] [] [(13, di x), (16, .sl (w.map hRow)), (18, .sl (v.map hRow)), (19, di f)] (by simp (config := { maxSteps := 500000 }) only [↓vp, vv, implies_true, forall_const, undef, InI, ↓reduceIte, simprocAttr, coverS]) (by simp (config := { maxSteps := 500000 }) only [↓vp, vv, implies_true, forall_const, undef, InI, ↓reduceIte, simprocAttr, refsF]) (by simp (config := { maxSteps := 500000 }) only [↓vp, vv, implies_true, forall_const, undef, InI, ↓reduceIte, simprocAttr, ]) (by simp) (by simp (config := { maxSteps := 500000 }) only [↓vp, vv, implies_true, forall_const, undef, InI, ↓reduceIte, simprocAttr, ]; try rfl))
theorem RouteCloses_law (a : Option Addr) (len cap : Nat) (i k s : Int) (w : World) (h : ArgInts w a len cap) (h0 : 0 ≤ i) (h1 : i ≤ 255) (k0 : 0 ≤ k) (k1 : k ≤ 255) (s0 : 0 ≤ s) (s1 : s ≤ 255) :
    Calls Try.prog 11 #[.slice a len cap, .int .u8 i, .int .u8 k, .int .u8 s] w (Ret (.bool true) w) := by
  refine law_ints (us := [.int .u8 i, .int .u8 k, .int .u8 s]) h fun ns hns => ?_
  have := RC_c ns hns i.toNat k.toNat s.toNat (by omega) (by omega) (by omega) (0, 0)
  rw [show ((i.toNat : Nat) : Int) = i by omega, show ((k.toNat : Nat) : Int) = k by omega, show ((s.toNat : Nat) : Int) = s by omega] at this
  exact this
end Go.Proofs.Ytemkjjlpggmolaa
