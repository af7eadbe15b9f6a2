
/- RouteParts: the walk. -/
import Derived.Test.YtemkjjlpggmolaaRtB
namespace Go.Proofs.Ytemkjjlpggmolaa
open Go
set_option linter.unusedVariables false
set_option linter.unusedSimpArgs false
set_option maxRecDepth 100000

theorem tc_pt {T : Tbl} (hT : TblOk Try.prog T) : TblOk Try.prog (tc 65 (rowPu (selN0 RtV fun n c => .tup [.sl ((partsL n c).map pRow), di 0])) T) := tc_n0 f65_ok (fun n c h nn => Parts_c n c h nn) hT
def TRp (P : Program) : Tbl := tc 65 (rowPu (selN0 RtV fun n c => .tup [.sl ((partsL n c).map pRow), di 0])) (TRl P)
theorem TRp_ok : TblOk Try.prog (TRp Try.prog) := tc_pt TRl_ok
theorem bRow_np (c : List Bool) (k : Nat) (h : k < c.length) : (c.map bRow).getD k [] = bRow (c.getD k false) := by rw [getD_map bRow c k h, List.getD_eq_getElem?_getD, List.getElem?_eq_getElem h]; rfl
/-- The parts that were written down. -/
def PtDone (P : List (List Nat)) (x : Nat) (A : List Int) : Prop := ∀ (j : Nat) (l : List Nat), P[j]? = some l → j < x → ∀ y ∈ l, A.getD y 0 = (j : Int)
def PtNow (x : Nat) (l : List Nat) (A : List Int) : Prop := ∀ y ∈ l, A.getD y 0 = (x : Int)
theorem pt_step {n : Net} {c : List Bool} (h : RtOk n c) {x m : Nat} {l : List Nat} (hx : (partsL n c)[x]? = some l) (hm : m < l.length) {A : List Int} (hA : A.length = n.nodes.length) (hd : PtDone (partsL n c) x A) (hn : PtNow x (l.take m) A) : PtDone (partsL n c) x (A.set l[m] x) ∧ PtNow x (l.take (m + 1)) (A.set l[m] x) := by
  have hy : l[m] ∈ l := List.getElem_mem hm
  have hlt := part_lt hx hy
  refine ⟨fun j k hj hjx y hyk => ?_, fun y hyl => ?_⟩
  · rw [getD_seti _ _ _ _ (by omega), if_neg]
    · exact hd j k hj hjx y hyk
    · intro e
      rw [e] at hy
      have := part_one h hj hx hyk hy (Jn.refl n c y)
      omega
  · rw [getD_seti _ _ _ _ (by omega)]
    split
    · rfl
    · rename_i hne
      rw [← List.take_append_getElem hm] at hyl
      rcases List.mem_append.1 hyl with h1 | h1
      · exact hn y h1
      · exact absurd (List.mem_singleton.1 h1).symm hne
theorem pt_end {n : Net} {c : List Bool} (h : RtOk n c) {A : List Int} (hd : PtDone (partsL n c) (partsL n c).length A) {a b : Nat} (ha : a < n.nodes.length) (hb : b < n.nodes.length) : (A.getD a 0 == A.getD b 0) = decide (0 ≤ (hopsL n c b).getD a 0) := by
  obtain ⟨i, l, hi, hal⟩ := part_of h ha
  obtain ⟨j, m, hj, hbm⟩ := part_of h hb
  have q1 := hd i l hi (List.getElem?_eq_some_iff.1 hi).1 a hal
  have q2 := hd j m hj (List.getElem?_eq_some_iff.1 hj).1 b hbm
  rw [q1, q2, Bool.eq_iff_iff, beq_iff_eq, decide_eq_true_eq, h.jn ha hb]
  refine ⟨fun e => ?_, fun hJ => ?_⟩
  · have : i = j := by omega
    subst this
    rw [hi] at hj
    cases hj
    exact part_joined h hi hal hbm
  · have := part_one h hi hj hal hbm hJ
    omega
def RpF (i k s : Nat) (n : Net) (c : List Bool) (P : List (List Nat)) (t : Nat) (l : List (Nat × D)) : List (Nat × D) := (1, .v (.int .u8 i)) :: (2, .v (.int .u8 k)) :: (3, .v (.int .u8 s)) :: (10, .ptr (0, 10) 0 0 0) :: (11, .sl (c.map bRow)) :: (12, .sl (P.map pRow)) :: (14, .own (0, 47) 0 0 n.nodes.length) :: (15, di t) :: l
def RpH (n : Net) (A : List Int) : Hp := (Hp.none.put (0, 47) ⟨0, 1, A.map iRow⟩).put (0, 10) ⟨0, 6, [netD n]⟩
def RwHp (n : Net) : Hp := Hp.none.put (0, 10) ⟨0, 6, [netD n]⟩
def RpQ : Ex → St → Prop := finQ r13 [] false (Pu (db true) Hp.none)
def RpE (i k s : Nat) (c : List Bool) (P : List (List Nat)) (l : List (Nat × D)) : List (Nat × D) := (1, .v (.int .u8 i)) :: (2, .v (.int .u8 k)) :: (3, .v (.int .u8 s)) :: (10, .ptr (0, 10) 0 0 0) :: (11, .sl (c.map bRow)) :: (12, .sl (P.map pRow)) :: l
theorem flat_take {P : List (List Nat)} {x : Nat} (h : x < P.length) : (P.take (x + 1)).flatten.length = (P.take x).flatten.length + P[x].length := by
  rw [← List.take_append_getElem h, List.flatten_append, List.length_append]
  simp
theorem flat_le (P : List (List Nat)) (x : Nat) : (P.take x).flatten.length ≤ P.flatten.length := by
  have : P.flatten = (P.take x).flatten ++ (P.drop x).flatten := by rw [← List.flatten_append, List.take_append_drop]
  rw [this, List.length_append]
  omega
set_option maxHeartbeats 8000000 in
theorem rp_1 (i k s : Nat) (n : Net) (c : List Bool) (h : RtV n c) (F : Fr) (H : Hp) (hwk : Weak [] ⟨F, H⟩ ⟨fr (RpE i k s c (partsL n c) []), RwHp n⟩)
    (next : ∀ A F H, A.length = n.nodes.length → PtDone (partsL n c) (partsL n c).length A → Weak [] ⟨F, H⟩ ⟨fr (RpE i k s c (partsL n c) [(14, .sl (A.map iRow)), (15, di n.nodes.length)]), RwHp n⟩ → vc (TRp Try.prog) (fun t => (0, t)) [] (.weak c13_9) RpQ ⟨F, H⟩) : vc (TRp Try.prog) (fun t => (0, t)) [] (.weak c13_10) RpQ ⟨F, H⟩ := by
  refine vc_wk hwk ?_
  have hnl := h.v.nl
  have hfl := flat_len h.ok
  have hst := fun {x m : Nat} {l : List Nat} (hx : (partsL n c)[x]? = some l) (hm : m < l.length) {A : List Int} hA hd hn => pt_step h.ok (x := x) (m := m) (l := l) (A := A) hx hm hA hd hn
  have hlt := fun {j : Nat} {l : List Nat} (hj : (partsL n c)[j]? = some l) {y : Nat} hy => part_lt hj (y := y) hy
  have hfle := flat_le (partsL n c)
  have hPn : (partsL n c).length ≤ n.nodes.length := by
    rw [parts_len]
    unfold rootsL
    have := List.length_filter_le (rootB n c) (List.range n.nodes.length)
    rw [List.length_range] at this
    exact this
  have hll : ∀ (x : Nat) (l : List Nat), (partsL n c)[x]? = some l → l.length ≤ n.nodes.length := fun x l hx => by
    obtain ⟨r, _, _, _, rfl⟩ := part_at hx
    unfold rL
    have := List.length_filter_le (fun j => decide (0 ≤ (hopsL n c r).getD j 0)) (List.range n.nodes.length)
    rw [List.length_range] at this
    exact this
  generalize partsL n c = P at *
  have hrep : List.replicate n.nodes.length [D.v (.int .i64 0)] = (List.replicate n.nodes.length 0).map iRow := by rw [List.map_replicate]; rfl
  have hcl : (List.replicate n.nodes.length (0 : Int)).length = n.nodes.length := by simp
  generalize List.replicate n.nodes.length (0 : Int) = A0 at *
  have z1 : (8 : Int) * n.nodes.length ≤ 281474976710656 := by omega
  have z2 : (n.nodes.length : Int) ≤ 4611686018427387904 := by omega
  have z3 := idx_nn n.nodes.length
  have hrf : (∀ j ∈ A0, refsInL [(0, 10), (0, 47)] (iRow j) = true) = True := eq_true fun _ _ => rfl
  simp (config := { maxSteps := 500000 }) only [↓vp, vv, implies_true, forall_const, undef, InI, ↓reduceIte, simprocAttr, c13_10, RpE, RwHp, netD, z1, z2, z3, hrep, Int.toNat_natCast]
  rw [vc_loop]
  refine ⟨fun q st => ∃ (x : Nat) (A : List Int), x + q = P.length ∧ A.length = n.nodes.length ∧ PtDone P x A ∧ st = ⟨fr (RpF i k s n c P (P.take x).flatten.length [(49, di P.length), (50, di x)]), RpH n A⟩, ⟨P.length, _, (weak_eq [] [(0, 10), (0, 47)] (RpF i k s n c P (P.take 0).flatten.length [(49, di P.length), (50, di 0)]) (by simp (config := { maxSteps := 500000 }) only [↓vp, vv, implies_true, forall_const, undef, InI, ↓reduceIte, simprocAttr, coverS, RpF, RpH, netD, hrep, hrf, List.take_zero, List.flatten_nil, List.length_nil]) (by simp (config := { maxSteps := 500000 }) only [↓vp, vv, implies_true, forall_const, undef, InI, ↓reduceIte, simprocAttr, refsF, RpF, RpH, netD, hrep, hrf, List.take_zero, List.flatten_nil, List.length_nil]) (by simp (config := { maxSteps := 500000 }) only [↓vp, vv, implies_true, forall_const, undef, InI, ↓reduceIte, simprocAttr, RpF, RpH, netD, hrep, hrf, List.take_zero, List.flatten_nil, List.length_nil]) (by simp) (by simp (config := { maxSteps := 500000 }) only [↓vp, vv, implies_true, forall_const, undef, InI, ↓reduceIte, simprocAttr, RpF, RpH, netD, hrep, hrf, List.take_zero, List.flatten_nil, List.length_nil]; try rfl)), 0, A0, by omega, hcl, fun j l _ hj => absurd hj (by omega), rfl⟩, ?_⟩
  rintro q st ⟨x, A, hxq, hA, hD, rfl⟩
  by_cases hx : x < P.length
  · have hx' : (x : Int) < P.length := by omega
    have hxn := idx_nn x
    have wx := idx_next (j := x) (by omega)
    have gx := getD_map pRow P x hx
    have hPx := List.getElem?_eq_getElem hx
    have hfl1 := flat_take hx
    have hfl2 := hfle (x + 1)
    have hl := hll x _ hPx
    have hst := fun {m : Nat} (hm : m < P[x].length) {A : List Int} hA hd hn => hst hPx (m := m) hm (A := A) hA hd hn
    have hlt := fun {y : Nat} hy => hlt hPx (y := y) hy
    have hdn : ∀ A : List Int, PtDone P x A → PtNow x P[x] A → PtDone P (x + 1) A := fun A h1 h2 j m hj hjx y hy => by
      rcases Nat.lt_or_ge j x with h3 | h3
      · exact h1 j m hj h3 y hy
      · have e : j = x := by omega
        subst e
        rw [hPx] at hj
        cases hj
        exact h2 y hy
    generalize P[x] = l at *
    have p1 : (pRow l).length = 1 := rfl
    have e0 : pRow l = [.sl (l.map nRow)] := rfl
    rw [e0] at gx
    simp (config := { maxSteps := 500000 }) only [↓vp, vv, implies_true, forall_const, undef, InI, ↓reduceIte, simprocAttr, c13_7, c13_6, RpF, RpH, netD, hx', hxn, gx, Int.toNat_natCast]
    rw [vc_loop]
    refine ⟨fun r st => ∃ (m : Nat) (A : List Int), m + r = l.length ∧ A.length = n.nodes.length ∧ PtDone P x A ∧ PtNow x (l.take m) A ∧ st = ⟨fr (RpF i k s n c P ((P.take x).flatten.length + m) [(16, di x), (49, di P.length), (50, di x), (56, .sl (l.map nRow)), (57, di l.length), (58, di m)]), RpH n A⟩, ⟨l.length, _, (weak_eq [] [(0, 10), (0, 47)] (RpF i k s n c P ((P.take x).flatten.length + 0) [(16, di x), (49, di P.length), (50, di x), (56, .sl (l.map nRow)), (57, di l.length), (58, di 0)]) (by simp (config := { maxSteps := 500000 }) only [↓vp, vv, implies_true, forall_const, undef, InI, ↓reduceIte, simprocAttr, coverS, RpF, RpH, netD, iRow, Nat.add_zero]) (by simp (config := { maxSteps := 500000 }) only [↓vp, vv, implies_true, forall_const, undef, InI, ↓reduceIte, simprocAttr, refsF, RpF, RpH, netD, iRow, Nat.add_zero]) (by simp (config := { maxSteps := 500000 }) only [↓vp, vv, implies_true, forall_const, undef, InI, ↓reduceIte, simprocAttr, RpF, RpH, netD, iRow, Nat.add_zero]) (by simp) (by simp (config := { maxSteps := 500000 }) only [↓vp, vv, implies_true, forall_const, undef, InI, ↓reduceIte, simprocAttr, RpF, RpH, netD, iRow, Nat.add_zero]; try rfl)), 0, A, by omega, hA, hD, (by intro y hy; simp at hy), rfl⟩, ?_⟩
    clear hA hD A
    rintro r st ⟨m, A, hmr, hA, hD, hN, rfl⟩
    by_cases hm : m < l.length
    · have hm' : (m : Int) < l.length := by omega
      have hmn := idx_nn m
      have wm := idx_next (j := m) (by omega)
      have gm : (l.map nRow).getD m [] = [di (l[m] : Nat)] := getD_map nRow l m hm
      have hy := hlt (List.getElem_mem hm)
      obtain ⟨s1, s2⟩ := hst hm hA hD hN
      generalize l[m] = y at gm hy s1 s2
      have n1 : decide ((y : Int) < 0) = false := decide_eq_false (by omega)
      have n2 : decide ((n.nodes.length : Int) ≤ y) = false := decide_eq_false (by omega)
      have n3 : (y : Int) < n.nodes.length := by omega
      have yn := idx_nn y
      have yA : y < A.length := by omega
      have gA := iRow_dd A y yA
      have eS : (A.map iRow).set y [di (x : Int)] = (A.set y x).map iRow := (List.map_set ..).symm
      have wc : IntKind.i64.wrap ((((P.take x).flatten.length + m : Nat) : Int) + 1) = (((P.take x).flatten.length + (m + 1) : Nat) : Int) := by rw [wrap_i (by omega)]; omega
      generalize hcm : (P.take x).flatten.length + m = cm at wc
      simp (config := { maxSteps := 500000 }) only [↓vp, vv, implies_true, forall_const, undef, InI, ↓reduceIte, simprocAttr, c13_4, c13_3, c13_2, c13_1, RpF, RpH, netD, hm', hmn, gm, n1, n2, n3, hy, yn, yA, hA, gA, eS, wc, wm, Int.toNat_natCast]
      exact ⟨r - 1, _, by omega, (weak_eq [] [(0, 10), (0, 47)] (RpF i k s n c P ((P.take x).flatten.length + (m + 1)) [(16, di x), (49, di P.length), (50, di x), (56, .sl (l.map nRow)), (57, di l.length), (58, di (m + 1 : Nat))]) (by simp (config := { maxSteps := 500000 }) only [↓vp, vv, implies_true, forall_const, undef, InI, ↓reduceIte, simprocAttr, coverS, RpF, RpH, netD, iRow, wm, wc]) (by simp (config := { maxSteps := 500000 }) only [↓vp, vv, implies_true, forall_const, undef, InI, ↓reduceIte, simprocAttr, refsF, RpF, RpH, netD, iRow, wm, wc]) (by simp (config := { maxSteps := 500000 }) only [↓vp, vv, implies_true, forall_const, undef, InI, ↓reduceIte, simprocAttr, RpF, RpH, netD, iRow, wm, wc]) (by simp) (by simp (config := { maxSteps := 500000 }) only [↓vp, vv, implies_true, forall_const, undef, InI, ↓reduceIte, simprocAttr, RpF, RpH, netD, iRow, wm, wc]; try rfl)), m + 1, A.set y x, by omega, by rw [List.length_set]; exact hA, s1, s2, rfl⟩
    · have hm' : ¬ (m : Int) < l.length := by omega
      have hme : m = l.length := by omega
      subst hme
      rw [List.take_length] at hN
      have hD2 := hdn A hD hN
      simp (config := { maxSteps := 500000 }) only [↓vp, vv, implies_true, forall_const, undef, InI, ↓reduceIte, simprocAttr, c13_4, c13_5, RpF, RpH, netD, hm', wx]
      exact ⟨q - 1, _, by omega, (weak_eq [] [(0, 10), (0, 47)] (RpF i k s n c P (P.take (x + 1)).flatten.length [(49, di P.length), (50, di (x + 1 : Nat))]) (by simp (config := { maxSteps := 500000 }) only [↓vp, vv, implies_true, forall_const, undef, InI, ↓reduceIte, simprocAttr, coverS, RpF, RpH, netD, iRow, wx, hfl1]) (by simp (config := { maxSteps := 500000 }) only [↓vp, vv, implies_true, forall_const, undef, InI, ↓reduceIte, simprocAttr, refsF, RpF, RpH, netD, iRow, wx, hfl1]) (by simp (config := { maxSteps := 500000 }) only [↓vp, vv, implies_true, forall_const, undef, InI, ↓reduceIte, simprocAttr, RpF, RpH, netD, iRow, wx, hfl1]) (by simp) (by simp (config := { maxSteps := 500000 }) only [↓vp, vv, implies_true, forall_const, undef, InI, ↓reduceIte, simprocAttr, RpF, RpH, netD, iRow, wx, hfl1]; try rfl)), x + 1, A, by omega, hA, hD2, rfl⟩
  · have hx' : ¬ (x : Int) < P.length := by omega
    have hxe : x = P.length := by omega
    subst hxe
    rw [List.take_length, hfl]
    simp (config := { maxSteps := 500000 }) only [↓vp, vv, implies_true, forall_const, undef, InI, ↓reduceIte, simprocAttr, c13_7, RpF, RpH, netD, hx']
    have tkA : (A.map iRow).take n.nodes.length = A.map iRow := List.take_of_length_le (by simp; omega)
    have hAle : n.nodes.length ≤ A.length := by omega
    refine next A _ _ hA hD ?_
    exact (weak_eq [(0, 47)] [(0, 10)] (RpE i k s c P [(14, .sl (A.map iRow)), (15, di n.nodes.length)]) (by simp (config := { maxSteps := 500000 }) only [↓vp, vv, implies_true, forall_const, undef, InI, ↓reduceIte, simprocAttr, coverS, RpE, RwHp, netD, iRow, tkA, hAle]) (by simp (config := { maxSteps := 500000 }) only [↓vp, vv, implies_true, forall_const, undef, InI, ↓reduceIte, simprocAttr, refsF, RpE, RwHp, netD, iRow, tkA, hAle]) (by simp (config := { maxSteps := 500000 }) only [↓vp, vv, implies_true, forall_const, undef, InI, ↓reduceIte, simprocAttr, RpE, RwHp, netD, iRow, tkA, hAle]) (by simp) (by simp (config := { maxSteps := 500000 }) only [↓vp, vv, implies_true, forall_const, undef, InI, ↓reduceIte, simprocAttr, RpE, RwHp, netD, iRow, tkA, hAle]; try rfl))
set_option maxHeartbeats 8000000 in
theorem rp_2 (i k s : Nat) (hi : i < 256) (hk : k < 256) (n : Net) (c : List Bool) (h : RtV n c) (hn0 : 2 ≤ n.nodes.length) (A : List Int) (hA : A.length = n.nodes.length) (hD : PtDone (partsL n c) (partsL n c).length A) (F : Fr) (H : Hp) (hwk : Weak [] ⟨F, H⟩ ⟨fr (RpE i k s c (partsL n c) [(14, .sl (A.map iRow)), (15, di n.nodes.length)]), RwHp n⟩)
    (next : ∀ F H, Weak [] ⟨F, H⟩ ⟨fr (RpE i k s c (partsL n c) []), RwHp n⟩ → vc (TRp Try.prog) (fun t => (0, t)) [] (.weak c13_8) RpQ ⟨F, H⟩) : vc (TRp Try.prog) (fun t => (0, t)) [] (.weak c13_9) RpQ ⟨F, H⟩ := by
  refine vc_wk hwk ?_
  have hnl := h.v.nl
  have hn1 : netOf1 [D.sl (n.nodes.map nmRow), .sl (n.segs.map Seg.row), .sl (n.ports.map Port.row), .sl (n.sts.map Stn.row), di n.vap, di n.set] = some n := netOf1_row n
  have hc1 : lsOf boolOf1 (c.map bRow) = some c := lsOf_map boolOf1_row c
  have wi : IntKind.i64.wrap (i : Int) = i := wrap_i (by omega)
  have wk : IntKind.i64.wrap (k : Int) = k := wrap_i (by omega)
  have mi := mod_i (i := i) (m := n.nodes.length)
  have mk := mod_i (i := k) (m := n.nodes.length)
  have la : i % n.nodes.length < n.nodes.length := Nat.mod_lt _ (by omega)
  have lb : k % n.nodes.length < n.nodes.length := Nat.mod_lt _ (by omega)
  have z0 : ¬ (n.nodes.length : Int) = 0 := by omega
  have he := pt_end h.ok hD la lb
  have hwd : ∃ (w : List (Int × Bool)) (e : Int), wayD n c (i % n.nodes.length) (k % n.nodes.length) = .tup [.sl (w.map hRow), di e] ∧ (e == 0) = decide (0 ≤ (hopsL n c (k % n.nodes.length)).getD (i % n.nodes.length) 0) := by
    unfold wayD
    by_cases h0 : (hopsL n c (k % n.nodes.length)).getD (i % n.nodes.length) 0 < 0
    · rw [if_pos h0, decide_eq_false (by omega)]
      exact ⟨[], 11, rfl, rfl⟩
    · rw [if_neg h0, decide_eq_true (by omega)]
      exact ⟨_, 0, rfl, rfl⟩
  obtain ⟨w, e, hwd, hee⟩ := hwd
  generalize i % n.nodes.length = a at *
  generalize k % n.nodes.length = b at *
  rw [← he] at hee
  have p1 : WyPre n c a b := ⟨h, by omega, by omega⟩
  have la' : (a : Int) < n.nodes.length := by omega
  have lb' : (b : Int) < n.nodes.length := by omega
  have an := idx_nn a
  have bn := idx_nn b
  have ga := iRow_dd A a (by omega)
  have gb := iRow_dd A b (by omega)
  generalize partsL n c = P at *
  cases hq : (A.getD a 0 == A.getD b 0) <;> rw [hq] at hee
  · simp (config := { maxSteps := 500000 }) only [↓vp, vv, implies_true, forall_const, undef, InI, ↓reduceIte, simprocAttr, c13_9, TRp, TRl, TRa, selN2, RpE, RwHp, netD, wi, wk, mi, mk, z0, hn1, hc1, p1, hwd, la', lb', la, lb, an, bn, hA, ga, gb, hq, hee, bne_self_eq_false, Int.toNat_natCast]
    exact next _ _ (weak_eq [] [(0, 10)] (RpE i k s c P []) (by simp (config := { maxSteps := 500000 }) only [↓vp, vv, implies_true, forall_const, undef, InI, ↓reduceIte, simprocAttr, coverS, RpE, RwHp, netD]) (by simp (config := { maxSteps := 500000 }) only [↓vp, vv, implies_true, forall_const, undef, InI, ↓reduceIte, simprocAttr, refsF, RpE, RwHp, netD]) (by simp (config := { maxSteps := 500000 }) only [↓vp, vv, implies_true, forall_const, undef, InI, ↓reduceIte, simprocAttr, RpE, RwHp, netD]) (by simp) (by simp (config := { maxSteps := 500000 }) only [↓vp, vv, implies_true, forall_const, undef, InI, ↓reduceIte, simprocAttr, RpE, RwHp, netD]; try rfl))
  · simp (config := { maxSteps := 500000 }) only [↓vp, vv, implies_true, forall_const, undef, InI, ↓reduceIte, simprocAttr, c13_9, TRp, TRl, TRa, selN2, RpE, RwHp, netD, wi, wk, mi, mk, z0, hn1, hc1, p1, hwd, la', lb', la, lb, an, bn, hA, ga, gb, hq, hee, bne_self_eq_false, Int.toNat_natCast]
    exact next _ _ (weak_eq [] [(0, 10)] (RpE i k s c P []) (by simp (config := { maxSteps := 500000 }) only [↓vp, vv, implies_true, forall_const, undef, InI, ↓reduceIte, simprocAttr, coverS, RpE, RwHp, netD]) (by simp (config := { maxSteps := 500000 }) only [↓vp, vv, implies_true, forall_const, undef, InI, ↓reduceIte, simprocAttr, refsF, RpE, RwHp, netD]) (by simp (config := { maxSteps := 500000 }) only [↓vp, vv, implies_true, forall_const, undef, InI, ↓reduceIte, simprocAttr, RpE, RwHp, netD]) (by simp) (by simp (config := { maxSteps := 500000 }) only [↓vp, vv, implies_true, forall_const, undef, InI, ↓reduceIte, simprocAttr, RpE, RwHp, netD]; try rfl))
set_option maxHeartbeats 8000000 in
theorem rp_3 (i k s : Nat) (hs : s < 256) (n : Net) (c : List Bool) (h : RtV n c) (hs0 : 1 ≤ n.segs.length) (F : Fr) (H : Hp) (hwk : Weak [] ⟨F, H⟩ ⟨fr (RpE i k s c (partsL n c) []), RwHp n⟩) : vc (TRp Try.prog) (fun t => (0, t)) [] (.weak c13_8) RpQ ⟨F, H⟩ := by
  refine vc_wk hwk ?_
  have hnl := h.v.nl
  have hsl := h.v.sl
  have hcl := h.l
  have hn1 : netOf1 [D.sl (n.nodes.map nmRow), .sl (n.segs.map Seg.row), .sl (n.ports.map Port.row), .sl (n.sts.map Stn.row), di n.vap, di n.set] = some n := netOf1_row n
  have hc1 : lsOf boolOf1 (c.map bRow) = some c := lsOf_map boolOf1_row c
  have ws : IntKind.i64.wrap (s : Int) = s := wrap_i (by omega)
  have ms := mod_i (i := s) (m := n.segs.length)
  have lx : s % n.segs.length < n.segs.length := Nat.mod_lt _ (by omega)
  have z0 : ¬ (n.segs.length : Int) = 0 := by omega
  have hcut := cut_law h.ok lx
  generalize s % n.segs.length = x at *
  have p1 : CuPre n c x := ⟨h, by omega⟩
  have p2 : RtV n (c.set x true) := h.set x
  have lc : x < c.length := by omega
  have lc' : (x : Int) < c.length := by omega
  have lx0 := idx_nn x
  have hc2 : lsOf boolOf1 ((c.set x true).map bRow) = some (c.set x true) := lsOf_map boolOf1_row _
  have eS : (c.map bRow).set x [db true] = (c.set x true).map bRow := (List.map_set ..).symm
  have y0 : 0 < c.length := by omega
  have y1 : c.length * 1 ≤ 140737488355328 := by omega
  have y2 : c.length ≤ 4611686018427387904 := by omega
  have e1 : (∀ j ∈ c, (bRow j).length = 1) = True := eq_true fun _ _ => rfl
  have gx := bRow_np c x lc
  have e2 : (∀ j ∈ c.set x true, ∀ d ∈ bRow j, d.plain = true) = True := eq_true fun _ _ d hd => by rw [List.mem_singleton.1 hd]; rfl
  have e3 : (c.set x true).length = c.length := List.length_set
  have e4 : (bRow (c.getD x false)).set 0 (D.v (.bool true)) = [db true] := rfl
  have e5 : (bRow (c.getD x false)).length = 1 := rfl
  have tk : ((c.set x true).map bRow).take c.length = (c.set x true).map bRow := List.take_of_length_le (by simp)
  have hPn : (partsL n c).length ≤ n.nodes.length := by
    rw [parts_len]
    unfold rootsL
    have := List.length_filter_le (rootB n c) (List.range n.nodes.length)
    rw [List.length_range] at this
    exact this
  generalize bRow (c.getD x false) = q at gx e4 e5
  generalize hPP : partsL n c = P at *
  generalize hQQ : partsL n (c.set x true) = Q at *
  have wp : IntKind.i64.wrap ((P.length : Int) + 1) = (P.length : Int) + 1 := wrap_i (by omega)
  cases hcb : cutB n c x with
  | true =>
    rw [hcb, if_pos rfl] at hcut
    have q1 : ((Q.length : Int) == (P.length : Int) + 1) = true := by rw [beq_iff_eq]; omega
    have q2 : ((Q.length : Int) == (P.length : Int)) = false := by rw [beq_eq_false_iff_ne]; omega
    unfold RpQ
    simp (config := { maxSteps := 500000 }) only [↓vp, vv, implies_true, forall_const, undef, InI, ↓reduceIte, simprocAttr, c13_8, r13, TRp, TRl, TRa, selN0, selN1, selAw, RpE, RwHp, netD, ws, ms, z0, hn1, hc1, hc2, hPP, hQQ, hcb, p1, p2, lc, lc', lx0, eS, y0, y1, y2, e1, e2, e3, e4, e5, gx, tk, wp, q1, q2, Int.toNat_natCast, Pu]
  | false =>
    rw [hcb, if_neg (by simp), Nat.add_zero] at hcut
    have q1 : ((Q.length : Int) == (P.length : Int) + 1) = false := by rw [beq_eq_false_iff_ne]; omega
    have q2 : ((Q.length : Int) == (P.length : Int)) = true := by rw [beq_iff_eq]; omega
    unfold RpQ
    simp (config := { maxSteps := 500000 }) only [↓vp, vv, implies_true, forall_const, undef, InI, ↓reduceIte, simprocAttr, c13_8, r13, TRp, TRl, TRa, selN0, selN1, selAw, RpE, RwHp, netD, ws, ms, z0, hn1, hc1, hc2, hPP, hQQ, hcb, p1, p2, lc, lc', lx0, eS, y0, y1, y2, e1, e2, e3, e4, e5, gx, tk, wp, q1, q2, Int.toNat_natCast, Pu]
set_option maxHeartbeats 8000000 in
theorem RP_c (ns : List Int) (hns : ∀ n ∈ ns, InI n) (i k s : Nat) (hi : i < 256) (hk : k < 256) (hs : s < 256) (nn : Nm) : CallsA Try.prog 13 [.sl (ns.map fun n => [di n]), .v (.int .u8 i), .v (.int .u8 k), .v (.int .u8 s)] Hp.none nn (Pu (db true) Hp.none) := by
  obtain ⟨code, h1, h2⟩ := c13_ok
  refine callsA_of TRp_ok mixed (N := fun t => (0, t)) Try.func13 h1 h2 r13_ok [] false js_nil js_nil' (by simp [Try.f13]) ?_
  have ho : SrcOk ((ns.map fun n => [di n]).take 2000) 0 := src_new ns hns
  simp (config := { maxSteps := 500000 }) only [↓vp, vv, implies_true, forall_const, undef, InI, ↓reduceIte, simprocAttr, c13, TRp, TRl, rowNew, sel0, selClo, ho, Net.enc]
  intro a1 n hn
  have hsl := hn.slen
  have hnl := hn.nlen
  have hn1 : netOf1 [D.sl (n.nodes.map nmRow), .sl (n.segs.map Seg.row), .sl (n.ports.map Port.row), .sl (n.sts.map Stn.row), di n.vap, di n.set] = some n := netOf1_row n
  have s1 : n.segs.length ≤ 1000 := by omega
  simp (config := { maxSteps := 500000 }) only [↓vp, vv, implies_true, forall_const, undef, InI, ↓reduceIte, simprocAttr, TRp, TRl, selClo, hn1, s1, a1.2, netD]
  intro a2 c hc
  have hr : RtV n c := RtV.gen hn hc
  have hc1 : lsOf boolOf1 (c.map bRow) = some c := lsOf_map boolOf1_row c
  simp (config := { maxSteps := 500000 }) only [↓vp, vv, implies_true, forall_const, undef, InI, ↓reduceIte, simprocAttr, TRp, TRl, selN0, hn1, hc1, hr, netD]
  exact rp_1 i k s n c hr _ _ (weak_eq [] [(0, 10)] (RpE i k s c (partsL n c) []) (by simp (config := { maxSteps := 500000 }) only [↓vp, vv, implies_true, forall_const, undef, InI, ↓reduceIte, simprocAttr, coverS, RpE, RwHp, netD]) (by simp (config := { maxSteps := 500000 }) only [↓vp, vv, implies_true, forall_const, undef, InI, ↓reduceIte, simprocAttr, refsF, RpE, RwHp, netD]) (by simp (config := { maxSteps := 500000 }) only [↓vp, vv, implies_true, forall_const, undef, InI, ↓reduceIte, simprocAttr, RpE, RwHp, netD]) (by simp) (by simp (config := { maxSteps := 500000 }) only [↓vp, vv, implies_true, forall_const, undef, InI, ↓reduceIte, simprocAttr, RpE, RwHp, netD]; try rfl)) fun A F H hA hD hw => rp_2 i k s hi hk n c hr (by omega) A hA hD F H hw fun F H hw => rp_3 i k s hs n c hr (by omega) F H hw
theorem RouteParts_law (a : Option Addr) (len cap : Nat) (i k s : Int) (w : World) (h : ArgInts w a len cap) (h0 : 0 ≤ i) (h1 : i ≤ 255) (k0 : 0 ≤ k) (k1 : k ≤ 255) (s0 : 0 ≤ s) (s1 : s ≤ 255) :
    Calls Try.prog 13 #[.slice a len cap, .int .u8 i, .int .u8 k, .int .u8 s] w (Ret (.bool true) w) := by
  refine law_ints (us := [.int .u8 i, .int .u8 k, .int .u8 s]) h fun ns hns => ?_
  have := RP_c ns hns i.toNat k.toNat s.toNat (by omega) (by omega) (by omega) (0, 0)
  rw [show ((i.toNat : Nat) : Int) = i by omega, show ((k.toNat : Nat) : Int) = k by omega, show ((s.toNat : Nat) : Int) = s by omega] at this
  exact this
end Go.Proofs.Ytemkjjlpggmolaa
