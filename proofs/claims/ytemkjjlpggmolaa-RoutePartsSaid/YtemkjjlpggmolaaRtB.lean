
/- RouteBack: the walk. -/
import Derived.Test.YtemkjjlpggmolaaRt9
namespace Go.Proofs.Ytemkjjlpggmolaa
open Go
set_option linter.unusedVariables false
set_option linter.unusedSimpArgs false
set_option maxRecDepth 100000

theorem back_way {n : Net} {c : List Bool} (h : RtV n c) {a b : Nat} (ha : a < n.nodes.length) (hb : b < n.nodes.length) : ∃ (w v : List (Int × Bool)) (e : Int), (e = 0 ∨ e = 11) ∧ wayD n c a b = .tup [.sl (w.map hRow), di e] ∧ wayD n c b a = .tup [.sl (v.map hRow), di e] ∧ w.length = v.length ∧ w.length ≤ 24 ∧ lenR n w = (sumI (hCap n) w, 0) ∧ ∀ y ∈ w, hIn n y := by
  have hc := h.ok.comm ha hb
  have hlt := (h.ok.isD hb).lt_N h.ok.s ha
  have hnl := h.v.nl
  unfold wayD
  by_cases h0 : (hopsL n c b).getD a 0 < 0
  · rw [if_pos h0, if_pos (by omega)]
    exact ⟨[], [], 11, .inr rfl, rfl, rfl, rfl, by simp, len_nil h.ck, fun y hy => by cases hy⟩
  · rw [if_neg h0, if_neg (by omega)]
    have w1 := h.ok.way ha hb (by omega)
    have w2 := h.ok.way hb ha (by omega)
    exact ⟨_, _, 0, .inl rfl, rfl, rfl, by omega, by omega, len_rt h ha hb (by omega), fun y hy => (w1.1.known h.ok y hy).2.1⟩
theorem sumI_tkB {α : Type} (f : α → Int) {l : List α} {j : Nat} (h : j < l.length) : sumI f (l.take (j + 1)) = sumI f (l.take j) + f l[j] := by
  rw [← List.take_append_getElem h, sumI_snoc]
theorem hCap_b {n : Net} (hv : NetV n) {y : Int × Bool} (hy : hIn n y) : ∃ s : Seg, (n.segs.map Seg.row).getD y.1.toNat [] = s.row ∧ hCap n y = s.cap ∧ 1 ≤ s.cap ∧ s.cap ≤ 1000000 := by
  obtain ⟨h1, h2⟩ := hy
  have hk : y.1.toNat < n.segs.length := by omega
  have hse := (hv.se _ (List.getElem_mem hk)).2.2.2
  exact ⟨_, getD_map Seg.row n.segs y.1.toNat hk, by unfold hCap; rw [List.getElem?_eq_getElem hk], hse⟩
def TRl (P : Program) : Tbl := tc 59 (rowPu selAw) (tc 15 rowNew (tc 16 (rowSrc (sel0 NetOk) Net.enc) (tc 60 (rowSrc selClo (fun c => .sl (c.map bRow))) (tc 26 (rowPu (selNet fun n => di (checkI n))) TRa))))
theorem TRl_ok : TblOk Try.prog (TRl Try.prog) := tc_pu f59_ok (fun args pre d h hp nn => by
  unfold selAw at h
  split at h
  · cases h; exact awake13_c nn
  · cases h) (tc_new (tc_net (tc_clo (tc_netf f26_ok (fun n hz nn => rcheck_c n hz nn) TRa_ok))))
theorem mod_i {i m : Nat} : (i : Int).tmod (m : Int) = ((i % m : Nat) : Int) := (Int.ofNat_tmod i m).symm
def RbF (n : Net) (w : List (Int × Bool)) (s : Int) (l : List (Nat × D)) : List (Nat × D) := (8, .ptr (0, 8) 0 0 0) :: (16, di (sumI (hCap n) w)) :: (17, di 0) :: (18, di s) :: (77, .sl (w.map hRow)) :: (78, di w.length) :: l
set_option maxHeartbeats 8000000 in
theorem RB_c (ns : List Int) (hns : ∀ n ∈ ns, InI n) (i k : Nat) (hi : i < 256) (hk : k < 256) (nn : Nm) : CallsA Try.prog 10 [.sl (ns.map fun n => [di n]), .v (.int .u8 i), .v (.int .u8 k)] Hp.none nn (Pu (db true) Hp.none) := by
  obtain ⟨code, h1, h2⟩ := c10_ok
  refine callsA_of TRl_ok mixed (N := fun t => (0, t)) Try.func10 h1 h2 r10_ok [] false js_nil js_nil' (by simp [Try.f10]) ?_
  have ho : SrcOk ((ns.map fun n => [di n]).take 2000) 0 := src_new ns hns
  simp (config := { maxSteps := 500000 }) only [↓vp, vv, implies_true, forall_const, undef, InI, ↓reduceIte, simprocAttr, c10, TRl, rowNew, sel0, ho, Net.enc]
  intro a1 n hn
  have hck := check_ok hn
  have hv := check0 hck
  have hnz := net_sz hn
  have hsl := hn.slen
  have hnl := hn.nlen
  have hn1 : netOf1 [D.sl (n.nodes.map nmRow), .sl (n.segs.map Seg.row), .sl (n.ports.map Port.row), .sl (n.sts.map Stn.row), di n.vap, di n.set] = some n := netOf1_row n
  have hb1 : lsOf boolOf1 (List.replicate n.segs.length [db false]) = some (List.replicate n.segs.length false) := by
    have := lsOf_map boolOf1_row (List.replicate n.segs.length false)
    rw [List.map_replicate] at this
    exact this
  have hr : RtV n (List.replicate n.segs.length false) := RtV.gen hn (by simp)
  have wi : IntKind.i64.wrap (i : Int) = i := wrap_i (by omega)
  have wk : IntKind.i64.wrap (k : Int) = k := wrap_i (by omega)
  have mi := mod_i (i := i) (m := n.nodes.length)
  have mk := mod_i (i := k) (m := n.nodes.length)
  have la : i % n.nodes.length < n.nodes.length := Nat.mod_lt _ (by omega)
  have lb : k % n.nodes.length < n.nodes.length := Nat.mod_lt _ (by omega)
  obtain ⟨w, v, e, he, hA, hB, hwv, hw, hL, hin⟩ := back_way hr la lb
  generalize i % n.nodes.length = a at *
  generalize k % n.nodes.length = b at *
  have p1 : WyPre n (List.replicate n.segs.length false) a b := ⟨hr, by omega, by omega⟩
  have p2 : WyPre n (List.replicate n.segs.length false) b a := ⟨hr, by omega, by omega⟩
  have hw1 : lsOf hopOf1 (w.map hRow) = some w := lsOf_map hopOf1_row w
  have z0 : ¬ (n.nodes.length : Int) = 0 := by omega
  have z1 : (1 : Int) * n.segs.length ≤ 281474976710656 := by omega
  have z2 : (n.segs.length : Int) ≤ 4611686018427387904 := by omega
  have z3 := idx_nn n.segs.length
  have hrep : List.replicate n.segs.length [D.v (.bool false)] = (List.replicate n.segs.length false).map bRow := by rw [List.map_replicate]; rfl
  have hcl : (List.replicate n.segs.length false).length = n.segs.length := by simp
  have hb2 : lsOf boolOf1 ((List.replicate n.segs.length false).map bRow) = some (List.replicate n.segs.length false) := lsOf_map boolOf1_row _
  generalize List.replicate n.segs.length false = c at *
  have hpl : (∀ j ∈ c, ∀ d ∈ bRow j, d.plain = true) = True := eq_true fun x _ d hd => by
    rw [List.mem_singleton.1 hd]; rfl
  have hle : n.segs.length ≤ c.length := by omega
  have htk : (c.map bRow).take n.segs.length = c.map bRow := List.take_of_length_le (by rw [List.length_map]; omega)
  have hvw : v.length = w.length := hwv.symm
  have hw1000 : w.length ≤ 1000 := by omega
  have hlen : ∀ h : Int × Bool, (hRow h).length = 2 := fun _ => rfl
  have hsum : ∀ j, j ≤ w.length → 0 ≤ sumI (hCap n) (w.take j) ∧ sumI (hCap n) (w.take j) ≤ 1000000 * (w.take j).length := fun j _ => ⟨sumI_nn fun y hy => by obtain ⟨s, _, q, _⟩ := hCap_b hv (hin y (List.mem_of_mem_take hy)); omega, sumI_le 1000000 fun y hy => by obtain ⟨s, _, q, _⟩ := hCap_b hv (hin y (List.mem_of_mem_take hy)); omega⟩
  have go : ∀ e : Int, e = 0 ∨ e = 11 → vc (TRl Try.prog) (fun t => (0, t)) [] c10_6 (finQ r10 [] false (Pu (db true) Hp.none)) ⟨fr [(8, .ptr (0, 8) 0 0 0), (12, .sl (w.map hRow)), (16, di (sumI (hCap n) w)), (17, di 0)], Hp.none.put (0, 8) ⟨0, 6, [netD n]⟩⟩ := fun e he => by
    simp (config := { maxSteps := 500000 }) only [↓vp, vv, implies_true, forall_const, undef, InI, ↓reduceIte, simprocAttr, c10_6, netD]
    refine rng_loop w.length (fun j => ⟨fr (RbF n w (sumI (hCap n) (w.take j)) [(79, di (j : Nat))]), Hp.none.put (0, 8) ⟨0, 6, [netD n]⟩⟩) (fun _ => True) (weak_eq [] [(0, 8)] (RbF n w (sumI (hCap n) (w.take 0)) [(79, di 0)]) (by simp (config := { maxSteps := 500000 }) only [↓vp, vv, implies_true, forall_const, undef, InI, ↓reduceIte, simprocAttr, coverS, RbF, netD, List.take_zero, sumI]) (by simp (config := { maxSteps := 500000 }) only [↓vp, vv, implies_true, forall_const, undef, InI, ↓reduceIte, simprocAttr, refsF, RbF, netD, List.take_zero, sumI]) (by simp (config := { maxSteps := 500000 }) only [↓vp, vv, implies_true, forall_const, undef, InI, ↓reduceIte, simprocAttr, RbF, netD, List.take_zero, sumI]) (by simp) (by simp (config := { maxSteps := 500000 }) only [↓vp, vv, implies_true, forall_const, undef, InI, ↓reduceIte, simprocAttr, RbF, netD, List.take_zero, sumI]; try rfl)) trivial (fun j hj _ => ?_) (fun _ => ?_)
    · have hj' : (j : Int) < w.length := by omega
      have hjn := idx_nn j
      have w1 := idx_next (j := j) (by omega)
      have gw := hRow_g w j hj
      have hy := hin w[j] (List.getElem_mem hj)
      have ht := sumI_tkB (hCap n) hj
      have b1 := hsum j (by omega)
      rw [List.length_take, Nat.min_eq_left (by omega)] at b1
      obtain ⟨sg, gs, hc, hcap⟩ := hCap_b hv hy
      generalize w[j] = y at gw hy ht gs hc
      rw [hc] at ht
      generalize sumI (hCap n) (w.take j) = S at *
      obtain ⟨y1, y2⟩ := hy
      have n1 : decide (y.1 < 0) = false := decide_eq_false (by omega)
      have n2 : decide ((n.segs.length : Int) ≤ y.1) = false := decide_eq_false (by omega)
      have wS : IntKind.i64.wrap (S + sg.cap) = S + sg.cap := wrap_i (by omega)
      obtain ⟨k1, k2⟩ := y
      dsimp only at y1 y2 n1 n2 gs
      simp (config := { maxSteps := 500000 }) only [↓vp, vv, implies_true, forall_const, undef, InI, ↓reduceIte, simprocAttr, c10_4, c10_3, c10_2, c10_1, RbF, netD, hj', hjn, Int.toNat_natCast, gw, hRow, n1, n2, y1, y2, gs, Seg.row, wS, w1]
      exact rng_next hj (weak_eq [] [(0, 8)] (RbF n w (sumI (hCap n) (w.take (j + 1))) [(79, di (j + 1 : Nat))]) (by simp (config := { maxSteps := 500000 }) only [↓vp, vv, implies_true, forall_const, undef, InI, ↓reduceIte, simprocAttr, coverS, RbF, netD, w1, ht]) (by simp (config := { maxSteps := 500000 }) only [↓vp, vv, implies_true, forall_const, undef, InI, ↓reduceIte, simprocAttr, refsF, RbF, netD, w1, ht]) (by simp (config := { maxSteps := 500000 }) only [↓vp, vv, implies_true, forall_const, undef, InI, ↓reduceIte, simprocAttr, RbF, netD, w1, ht]) (by simp) (by simp (config := { maxSteps := 500000 }) only [↓vp, vv, implies_true, forall_const, undef, InI, ↓reduceIte, simprocAttr, RbF, netD, w1, ht]; try rfl)) trivial
    · rw [List.take_length]
      simp (config := { maxSteps := 500000 }) only [↓vp, vv, implies_true, forall_const, undef, InI, ↓reduceIte, simprocAttr, c10_4, c10_5, TRl, selNet, selAw, r10, RbF, netD, Int.lt_irrefl, hn1, hnz, hck, Pu]
  simp (config := { maxSteps := 500000 }) only [↓vp, vv, implies_true, forall_const, undef, InI, ↓reduceIte, simprocAttr, TRl, netD, hrep, hpl, hle, htk, wi, wk, mi, mk, z0, z1, z2, z3, Int.toNat_natCast]
  refine vc_wk (weak_eq [(0, 28)] [(0, 8)] [(8, .ptr (0, 8) 0 0 0), (9, .sl (c.map bRow)), (10, di a), (11, di b)] (by simp (config := { maxSteps := 500000 }) only [↓vp, vv, implies_true, forall_const, undef, InI, ↓reduceIte, simprocAttr, coverS, hrep, hpl, hle, htk, bRow]) (by simp (config := { maxSteps := 500000 }) only [↓vp, vv, implies_true, forall_const, undef, InI, ↓reduceIte, simprocAttr, refsF]) (by simp (config := { maxSteps := 500000 }) only [↓vp, vv, implies_true, forall_const, undef, InI, ↓reduceIte, simprocAttr, ]) (by simp) (by simp (config := { maxSteps := 500000 }) only [↓vp, vv, implies_true, forall_const, undef, InI, ↓reduceIte, simprocAttr, ]; try rfl)) ?_
  rcases he with rfl | rfl
  all_goals
    simp (config := { maxSteps := 500000 }) only [↓vp, vv, implies_true, forall_const, undef, InI, ↓reduceIte, simprocAttr, c10_7, TRl, TRa, netD, selN2, selLen, hn1, hb2, hnz, p1, p2, hA, hB, hw1, hw1000, hL, hvw, Int.toNat_natCast, bne_self_eq_false]
  · exact vc_wk (weak_eq [] [(0, 8)] [(8, .ptr (0, 8) 0 0 0), (12, .sl (w.map hRow)), (16, di (sumI (hCap n) w)), (17, di 0)] (by simp (config := { maxSteps := 500000 }) only [↓vp, vv, implies_true, forall_const, undef, InI, ↓reduceIte, simprocAttr, coverS, netD]) (by simp (config := { maxSteps := 500000 }) only [↓vp, vv, implies_true, forall_const, undef, InI, ↓reduceIte, simprocAttr, refsF, netD]) (by simp (config := { maxSteps := 500000 }) only [↓vp, vv, implies_true, forall_const, undef, InI, ↓reduceIte, simprocAttr, netD]) (by simp) (by simp (config := { maxSteps := 500000 }) only [↓vp, vv, implies_true, forall_const, undef, InI, ↓reduceIte, simprocAttr, netD]; try rfl)) (go 0 (.inl rfl))
  · exact vc_wk (weak_eq [] [(0, 8)] [(8, .ptr (0, 8) 0 0 0), (12, .sl (w.map hRow)), (16, di (sumI (hCap n) w)), (17, di 0)] (by simp (config := { maxSteps := 500000 }) only [↓vp, vv, implies_true, forall_const, undef, InI, ↓reduceIte, simprocAttr, coverS, netD]) (by simp (config := { maxSteps := 500000 }) only [↓vp, vv, implies_true, forall_const, undef, InI, ↓reduceIte, simprocAttr, refsF, netD]) (by simp (config := { maxSteps := 500000 }) only [↓vp, vv, implies_true, forall_const, undef, InI, ↓reduceIte, simprocAttr, netD]) (by simp) (by simp (config := { maxSteps := 500000 }) only [↓vp, vv, implies_true, forall_const, undef, InI, ↓reduceIte, simprocAttr, netD]; try rfl)) (go 11 (.inr rfl))
theorem RouteBack_law (a : Option Addr) (len cap : Nat) (i k : Int) (w : World) (h : ArgInts w a len cap) (h0 : 0 ≤ i) (h1 : i ≤ 255) (k0 : 0 ≤ k) (k1 : k ≤ 255) :
    Calls Try.prog 10 #[.slice a len cap, .int .u8 i, .int .u8 k] w (Ret (.bool true) w) := by
  refine law_ints (us := [.int .u8 i, .int .u8 k]) h fun ns hns => ?_
  have := RB_c ns hns i.toNat k.toNat (by omega) (by omega) (0, 0)
  rw [show ((i.toNat : Nat) : Int) = i by omega, show ((k.toNat : Nat) : Int) = k by omega] at this
  exact this
end Go.Proofs.Ytemkjjlpggmolaa
