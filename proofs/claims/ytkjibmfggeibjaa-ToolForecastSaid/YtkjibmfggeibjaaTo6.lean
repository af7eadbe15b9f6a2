
/- Tools: the line, ticks, the sanity check. -/
import Derived.Test.YtkjibmfggeibjaaTo5
import Derived.Test.YtkjibmfggeibjaaFlQ
import Derived.Test.YtkjibmfggeibjaaVz
import Derived.Test.YtkjibmfggeibjaaBridge
namespace Go.Proofs.Ytkjibmfggeibjaa
open Go
set_option linter.unusedVariables false
set_option linter.unusedSimpArgs false
set_option maxRecDepth 100000

/-- A line between two ports. -/
def lineN (C : Int) : Net := ⟨[⟨#[97]⟩, ⟨#[98]⟩], [⟨⟨#[103]⟩, 0, 1, C, 0, 0, [⟨0, 0, 1000000⟩, ⟨C, 0, 1000000⟩]⟩], [⟨⟨#[112]⟩, 0, 300000⟩, ⟨⟨#[113]⟩, 1, 0⟩], [], 0, 0⟩
def planL (r : Int) : Pln := ⟨[r], [r, -r], []⟩
theorem line_all : ((List.range 400).all fun i : Nat => checkI (lineN ((20 + i : Nat) : Int)) == 0) = true := by kernel_rfl
theorem line_ck {C : Nat} (h : 20 ≤ C ∧ C < 420) : checkI (lineN C) = 0 := by
  have := List.all_eq_true.1 line_all (C - 20) (List.mem_range.2 (by omega))
  rw [show 20 + (C - 20) = C by omega] at this
  simpa using this
theorem line_sz (C : Int) : NetSz (lineN C) := ⟨by simp [lineN], by simp [lineN], by simp [lineN], by simp [lineN], fun s hs => by rw [List.mem_singleton.1 hs]; simp⟩
theorem line_fsz (C r : Int) : FckPre (lineN C) (planL r) := ⟨line_sz C, ⟨by simp [planL], by simp [planL], by simp [planL]⟩⟩
theorem line_f {C r : Nat} (h : 20 ≤ C ∧ C < 420) (hr : 1 ≤ r ∧ r ≤ C) : fckI (lineN C) (planL r) = 0 := by
  have hck := line_ck h
  have hv := check0 hck
  unfold fckI
  rw [if_pos hck, len_f rfl rfl rfl, any_ff fun x hx => ?_, any_ff fun q hq => ?_, if_pos ((bal_iff _).2 fun v _ => ?_)]
  · have hm : ∀ x ∈ (lineN C).segs.zip (planL r).rates, UpOk x := fun x hx => by
      have e : x = (⟨⟨#[103]⟩, 0, 1, C, 0, 0, [⟨0, 0, 1000000⟩, ⟨C, 0, 1000000⟩]⟩, (r : Int)) := List.mem_singleton.1 hx
      subst e
      intro _
      unfold frOf toOf
      dsimp only
      rw [if_neg (by omega), if_neg (by omega)]
      omega
    have := ord_full (edge_ok (planL r) hv) (.inl hm)
    unfold ordB
    rw [if_neg Bool.false_ne_true, if_neg Bool.false_ne_true, if_neg Bool.false_ne_true, if_neg]
    intro hh
    have e : (lineN C).nodes.length = 2 := rfl
    rw [this] at hh
    omega
  · have hv2 : v < 24 := by assumption
    show sumI (netOf (v : Int)) [(0, 1, (r : Int)), (-1, 0, (r : Int)), (-1, 1, -(r : Int))] = 0
    simp only [sumI, netOf]
    split <;> split <;> (try split) <;> (try split) <;> (try split) <;> omega
  · have : q = r ∨ q = -(r : Int) := by
      rcases List.mem_cons.1 hq with e | e
      · exact .inl e
      · exact .inr (List.mem_singleton.1 e)
    unfold portBadR
    rw [with_t (by omega) (by omega)]
    rfl
  · have e : x = (⟨⟨#[103]⟩, 0, 1, C, 0, 0, [⟨0, 0, 1000000⟩, ⟨C, 0, 1000000⟩]⟩, (r : Int)) := List.mem_singleton.1 hx
    subst e
    unfold rateBad most
    dsimp only
    rw [with_t (by split <;> omega) (by split <;> omega)]
    rfl
set_option maxHeartbeats 4000000 in
theorem line_c (C : Int) (nn : Nm) : CallsA Try.prog 11 [di C] Hp.none nn (Pu (lineN C).enc Hp.none) := by
  obtain ⟨code, h1, h2⟩ := c11_ok
  refine callsA_of (T0_ok _) mixed (N := fun t => (0, t)) Try.func11 h1 h2 r11_ok [] false js_nil js_nil' (by simp [Try.f11]) ?_
  simp (config := { maxSteps := 500000 }) only [↓vp, vv, implies_true, forall_const, undef, InI, ↓reduceIte, simprocAttr, c11, r11]
  refine vc_wk ((weak_eq [] [(0, 2), (0, 3), (0, 8), (0, 10), (0, 13)] [(2, .ptr (0, 2) 0 0 0)]
      (H' := hp [((0, 2), ⟨0, 6, [[.own (0, 3) 0 0 2, .own (0, 10) 0 0 1, .own (0, 13) 0 0 2, .mt, di 0, di 0]]⟩), ((0, 3), ⟨0, 1, [[ds ⟨#[97]⟩], [ds ⟨#[98]⟩]]⟩), ((0, 8), ⟨0, 3, [[di 0, di 0, di 1000000], [di C, di 0, di 1000000]]⟩), ((0, 10), ⟨0, 7, [[ds ⟨#[103]⟩, di 0, di 1, di C, di 0, di 0, .own (0, 8) 0 0 2]]⟩), ((0, 13), ⟨0, 3, [[ds ⟨#[112]⟩, di 0, di 300000], [ds ⟨#[113]⟩, di 1, di 0]]⟩)])
      (by simp (config := { maxSteps := 500000 }) only [↓vp, vv, implies_true, forall_const, undef, InI, ↓reduceIte, simprocAttr, coverS]) (by simp (config := { maxSteps := 500000 }) only [↓vp, vv, implies_true, forall_const, undef, InI, ↓reduceIte, simprocAttr, refsF]) (by simp (config := { maxSteps := 500000 }) only [↓vp, vv, implies_true, forall_const, undef, InI, ↓reduceIte, simprocAttr, ]) (by simp) (by simp (config := { maxSteps := 500000 }) only [↓vp, vv, implies_true, forall_const, undef, InI, ↓reduceIte, simprocAttr, hp_cons, hp_nil]; try rfl)).trans
      (weak_fz [(0, 8)] [(0, 2), (0, 3), (0, 10), (0, 13)] (l := [(2, .ptr (0, 2) 0 0 0)]) (h := _) (l' := [(2, .ptr (0, 2) 0 0 0)]) (H' := ((((Hp.none.put (0, 13) ⟨0, 3, [[ds ⟨#[112]⟩, di 0, di 300000], [ds ⟨#[113]⟩, di 1, di 0]]⟩).put (0, 10) ⟨0, 7, [[ds ⟨#[103]⟩, di 0, di 1, di C, di 0, di 0, .sl [[di 0, di 0, di 1000000], [di C, di 0, di 1000000]]]]⟩).put (0, 3) ⟨0, 1, [[ds ⟨#[97]⟩], [ds ⟨#[98]⟩]]⟩).put (0, 2) ⟨0, 6, [[.own (0, 3) 0 0 2, .own (0, 10) 0 0 1, .own (0, 13) 0 0 2, .mt, di 0, di 0]]⟩)) (by simp (config := { maxSteps := 500000 }) only [↓vp, vv, implies_true, forall_const, undef, InI, ↓reduceIte, simprocAttr, vz, listB, okKd, okK, lendKd, lendK, lendOk1B, frzF, Option.map_some, cond_true, cond_false, decide_true, decide_false, Bool.and_self, hp_at]) (by simp (config := { maxSteps := 500000 }) only [↓vp, vv, implies_true, forall_const, undef, InI, ↓reduceIte, simprocAttr, vz, listB, okKd, okK, lendKd, lendK, lendOk1B, frzF, Option.map_some, cond_true, cond_false, decide_true, decide_false, Bool.and_self, hp_at]) (by simp (config := { maxSteps := 500000 }) only [↓vp, vv, implies_true, forall_const, undef, InI, ↓reduceIte, simprocAttr, vz, listB, okKd, okK, lendKd, lendK, lendOk1B, frzF, Option.map_some, cond_true, cond_false, decide_true, decide_false, Bool.and_self, hp_at]; try rfl) (by simp (config := { maxSteps := 500000 }) only [↓vp, vv, implies_true, forall_const, undef, InI, ↓reduceIte, simprocAttr, vz, listB, okKd, okK, lendKd, lendK, lendOk1B, frzF, Option.map_some, cond_true, cond_false, decide_true, decide_false, Bool.and_self, hp_at]; try rfl) (by simp (config := { maxSteps := 500000 }) only [↓vp, vv, implies_true, forall_const, undef, InI, ↓reduceIte, simprocAttr, vz, listB, okKd, okK, lendKd, lendK, lendOk1B, frzF, Option.map_some, cond_true, cond_false, decide_true, decide_false, Bool.and_self, refsF, hp_at]) (by simp (config := { maxSteps := 500000 }) only [↓vp, vv, implies_true, forall_const, undef, InI, ↓reduceIte, simprocAttr, vz, listB, okKd, okK, lendKd, lendK, lendOk1B, frzF, Option.map_some, cond_true, cond_false, decide_true, decide_false, Bool.and_self, hp_at]) (by simp))) ?_
  simp (config := { maxSteps := 500000 }) only [↓vp, vv, implies_true, forall_const, undef, InI, ↓reduceIte, simprocAttr, r11, lineN, Net.enc, nmRow, Seg.row, Port.row, Pt.row, List.map_cons, List.map_nil, Pu]
def tickD (d r : Int) : D := .tup [di (d.tdiv r), di 0]
theorem ticks_c (d r : Int) (hd : 0 ≤ d ∧ d ≤ 1099511627776) (hr : 1 ≤ r ∧ r ≤ 1000) (nn : Nm) : CallsA Try.prog 13 [di d, di r] Hp.none nn (Pu (tickD d r) Hp.none) := by
  obtain ⟨code, h1, h2⟩ := c13_ok
  refine callsA_of (T0_ok _) mixed (N := fun t => (0, t)) Try.func13 h1 h2 r13_ok [] false js_nil js_nil' (by simp [Try.f13]) ?_
  have a1 : decide (d < 0) = false := decide_eq_false (by omega)
  have a2 : decide (1099511627776 < d) = false := decide_eq_false (by omega)
  have a3 : decide (r < 1) = false := decide_eq_false (by omega)
  have a4 : decide (1000 < r) = false := decide_eq_false (by omega)
  have a5 : ¬ r = 0 := by omega
  have q1 : 0 ≤ d.tdiv r := Int.tdiv_nonneg hd.1 (by omega)
  have q2 : d.tdiv r ≤ d := by
    rw [Int.tdiv_eq_ediv_of_nonneg hd.1]
    exact Int.ediv_le_self r hd.1
  have w1 : IntKind.i64.wrap (d.tdiv r) = d.tdiv r := wrap_i (by omega)
  simp (config := { maxSteps := 500000 }) only [↓vp, vv, implies_true, forall_const, undef, InI, ↓reduceIte, simprocAttr, c13, r13, c13_1, r13, a1, a2, a3, a4, a5, w1, tickD, Pu]
set_option maxHeartbeats 4000000 in
theorem tvalid_c (n : Net) (t : Tol) (hz : NetSz n) (hck : checkI n = 0) (hw : t.way.length ≤ 1000000) (nn : Nm) : CallsA Try.prog 25 [n.enc, t.enc] Hp.none nn (Pu (db (tolV n t)) Hp.none) := by
  obtain ⟨code, h1, h2⟩ := c25_ok
  refine callsA_of TLa_ok mixed (N := fun t => (0, t)) Try.func25 h1 h2 r25_ok [] false js_nil js_nil' (by simp [Try.f25]) ?_
  have hn1 : netOf1 [D.sl (n.nodes.map nmRow), .sl (n.segs.map Seg.row), .sl (n.ports.map Port.row), .sl (n.sts.map Stn.row), di n.vap, di n.set] = some n := netOf1_row n
  have ht1 : tolOf1 [.sl (t.way.map tHop), di t.hop, di t.pos] = some t := tolOf1_row t
  have hv := check0 hck
  simp (config := { maxSteps := 500000 }) only [↓vp, vv, implies_true, forall_const, undef, InI, ↓reduceIte, simprocAttr, c25, r25, r25, TLa, selNet, selVal, Net.enc, netD, Tol.enc, Tol.row, hn1, ht1, hz, hck, hv, hw, Pu]
def selLine : List D → Option (Prop × D)
  | [.v (.int .i64 C)] => some (True, (lineN C).enc)
  | _ => Option.none
def selLaun : List D → Option (Prop × D)
  | [.agg a, .sl rows] => match netOf1 a, lsOf tHopOf1 rows with
    | some n, some w => some (NetSz n ∧ checkI n = 0 ∧ w.length ≤ 1000000, launD n w)
    | _, _ => Option.none
  | _ => Option.none
def selRun : List D → Option (Prop × D)
  | [.agg a, .agg b, .sl rows, .v (.int .i64 k)] => match netOf1 a, plnOf1 b, lsOf tolOf1 rows with
    | some n, some p, some l => some (RunPre n p l k, .tup [.sl ((l.map (movK n p k.toNat)).map Tol.row), di 0])
    | _, _, _ => Option.none
  | _ => Option.none
def selTVal : List D → Option (Prop × D)
  | [.agg a, .agg b] => match netOf1 a, tolOf1 b with
    | some n, some t => some (NetSz n ∧ checkI n = 0 ∧ t.way.length ≤ 1000000, db (tolV n t))
    | _, _ => Option.none
  | _ => Option.none
def selTick : List D → Option (Prop × D)
  | [.v (.int .i64 d), .v (.int .i64 r)] => some ((0 ≤ d ∧ d ≤ 1099511627776) ∧ 1 ≤ r ∧ r ≤ 1000, tickD d r)
  | _ => Option.none
def TTo (P : Program) : Tbl := tc 11 (rowPu selLine) (tc 12 (rowPu selLaun) (tc 15 (rowPu selRun) (tc 16 (rowPu (selTol (fun _ => True) fun t => db (recB t))) (tc 25 (rowPu selTVal) (tc 13 (rowPu selTick) T0)))))
theorem tc_line {T : Tbl} (hT : TblOk Try.prog T) : TblOk Try.prog (tc 11 (rowPu selLine) T) := tc_pu f11_ok (fun args pre d hs hp nn => by
  unfold selLine at hs
  split at hs
  · cases hs; exact line_c _ nn
  · cases hs) hT
theorem tc_laun {T : Tbl} (hT : TblOk Try.prog T) : TblOk Try.prog (tc 12 (rowPu selLaun) T) := tc_pu f12_ok (fun args pre d hs hp nn => by
  unfold selLaun at hs
  split at hs
  · split at hs
    · rename_i e1 e2
      cases hs
      rw [netOf1_eq e1, lsOf_eq (fun r x => tHopOf1_eq) e2]
      exact launch_c _ _ hp.1 hp.2.1 hp.2.2 nn
    · cases hs
  · cases hs) hT
theorem tc_run {T : Tbl} (hT : TblOk Try.prog T) : TblOk Try.prog (tc 15 (rowPu selRun) T) := tc_pu f15_ok (fun args pre d hs hp nn => by
  unfold selRun at hs
  split at hs
  · rename_i k
    split at hs
    · rename_i e1 e2 e3
      cases hs
      rw [netOf1_eq e1, plnOf1_eq e2, lsOf_eq (fun r x => tolOf1_eq) e3]
      have hk := hp.k
      have e : ((k.toNat : Nat) : Int) = k := by omega
      have := trun_c _ _ _ k.toNat (by rw [e]; exact hp) nn
      rw [e] at this
      exact this
    · cases hs
  · cases hs) hT
theorem TTo_ok : TblOk Try.prog (TTo Try.prog) := tc_line (tc_laun (tc_run (tc_tol f16_ok (fun t _ nn => received_c t nn) (tc_pu f25_ok (fun args pre d hs hp nn => by
  unfold selTVal at hs
  split at hs
  · split at hs
    · rename_i e1 e2
      cases hs
      rw [netOf1_eq e1, tolOf1_eq e2]
      exact tvalid_c _ _ hp.1 hp.2.1 hp.2.2 nn
    · cases hs
  · cases hs) (tc_pu f13_ok (fun args pre d hs hp nn => by
  unfold selTick at hs
  split at hs
  · cases hs; exact ticks_c _ _ hp.1 hp.2 nn
  · cases hs) (T0_ok _))))))
end Go.Proofs.Ytkjibmfggeibjaa
