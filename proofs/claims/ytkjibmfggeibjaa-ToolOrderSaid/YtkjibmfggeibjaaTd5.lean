
/- ToolParts: the walk. -/
import Derived.Test.YtkjibmfggeibjaaTdA
namespace Go.Proofs.Ytkjibmfggeibjaa
open Go
set_option linter.unusedVariables false
set_option linter.unusedSimpArgs false
set_option maxRecDepth 100000

def selWay : List D → Option (Prop × (List (Int × Bool) → Prop))
  | [.agg r] => match netOf1 r with
    | some n => some (NetOk n, WayOk n)
    | Option.none => Option.none
  | _ => Option.none
theorem tc_way32 {T : Tbl} (hT : TblOk Try.prog T) : TblOk Try.prog (tc 21 (rowSrc selWay (fun w => .sl (w.map tHop))) T) :=
  tc_src f21_ok (fun args pre post h hp => by
    unfold selWay at h
    split at h
    · split at h
      · rename_i n e1
        cases h
        rw [netOf1_eq e1]
        exact ⟨⟨[], .inl rfl⟩, way32_c n hp⟩
      · cases h
    · cases h) hT
def selSame : List D → Option (Prop × D)
  | [.sl r, .sl s] => match lsOf tolOf1 r, lsOf tolOf1 s with
    | some a, some b => some (a = b ∧ a.length ≤ 1000000 ∧ ∀ t ∈ a, t.way.length ≤ 1000000, db true)
    | _, _ => Option.none
  | _ => Option.none
def selBh : List D → Option (Prop × D)
  | [.agg a, .agg b, .agg c] => match netOf1 a, tolOf1 b, tolOf1 c with
    | some n, some x, some y => some (BhPre n x y, .tup [db (ltT x y), di 0])
    | _, _, _ => Option.none
  | _ => Option.none
def TTd (P : Program) : Tbl := tc 14 (rowPu selAw) (tc 17 (rowPu selFw32) (tc 18 rowNew (tc 19 (rowSrc (sel0 NetOk) Net.enc) (tc 20 (rowSrc selPlan Pln.enc) (tc 21 (rowSrc selWay (fun w => .sl (w.map tHop))) (tc 22 (rowPu selSame) (tc 26 (rowPu selBh) (tc 23 (rowPu (selTol (fun t => t.way.length ≤ 1000000) Tol.enc)) (tc 24 (rowSrc (selI InI NPost) di) (TTo P))))))))))
theorem TTd_ok : TblOk Try.prog (TTd Try.prog) := tc_pu f14_ok (fun args pre d h hp nn => by
  unfold selAw at h
  split at h
  · cases h; exact awake32_c nn
  · cases h) (tc_pu f17_ok (fun args pre d h hp nn => by
  unfold selFw32 at h
  split at h
  · cases h; exact few32_c _ nn
  · cases h) (tc_new (tc_net (tc_plan (tc_way32 (tc_pu f22_ok (fun args pre d hs hp nn => by
  unfold selSame at hs
  split at hs
  · split at hs
    · rename_i e1 e2
      cases hs
      obtain ⟨rfl, h1, h2⟩ := hp
      rw [lsOf_eq (fun r x => tolOf1_eq) e1, lsOf_eq (fun r x => tolOf1_eq) e2]
      exact tsame_c _ h1 h2 nn
    · cases hs
  · cases hs) (tc_pu f26_ok (fun args pre d hs hp nn => by
  unfold selBh at hs
  split at hs
  · split at hs
    · rename_i e1 e2 e3
      cases hs
      rw [netOf1_eq e1, tolOf1_eq e2, tolOf1_eq e3]
      exact behind_c _ _ _ hp nn
    · cases hs
  · cases hs) (tc_tol f23_ok (fun t h nn => tcopy_c t h nn) (tc_src f24_ok (fun args pre post h hp => by
  unfold selI at h
  split at h
  · cases h; exact ⟨⟨0, Int.le_refl _, fun h => by omega, fun _ => rfl⟩, N_c _ hp⟩
  · cases h) TTo_ok)))))))))
theorem mov_rec (n : Net) (p : Pln) (t : Tol) (h : (t.hop == (t.way.length : Int)) = true) : ∀ k, movK n p k t = t
  | 0 => rfl
  | k + 1 => by
    have e : mov1 n p t = t := if_pos h
    show movK n p k (mov1 n p t) = t
    rw [e]
    exact mov_rec n p t h k
theorem mod60 {i : Nat} : (i : Int).tmod 60 = ((i % 60 : Nat) : Int) := (Int.ofNat_tmod i 60).symm
set_option maxHeartbeats 16000000 in
theorem TPt_c (ns : List Int) (hns : ∀ n ∈ ns, InI n) (a b : Nat) (ha : a < 256) (hb : b < 256) (nn : Nm) : CallsA Try.prog 4 [.sl (ns.map fun n => [di n]), .v (.int .u8 a), .v (.int .u8 b)] Hp.none nn (Pu (db true) Hp.none) := by
  obtain ⟨code, h1, h2⟩ := c4_ok
  refine callsA_of TTd_ok mixed (N := fun t => (0, t)) Try.func4 h1 h2 r4_ok [] false js_nil js_nil' (by simp [Try.f4]) ?_
  have ho : SrcOk ((ns.map fun n => [di n]).take 2000) 0 := src_new ns hns
  cases hf : decide ((ns.length : Int) ≤ 400) with
  | false => simp (config := { maxSteps := 500000 }) only [↓vp, vv, implies_true, forall_const, undef, InI, ↓reduceIte, simprocAttr, c4, r4, TTd, selFw32, selAw, hf, Pu]
  | true =>
    simp (config := { maxSteps := 500000 }) only [↓vp, vv, implies_true, forall_const, undef, InI, ↓reduceIte, simprocAttr, c4, c4_3, TTd, selFw32, rowNew, sel0, hf, ho, Net.enc]
    intro a1 n hn
    have hck := check_ok hn
    have hv := check0 hck
    have hpp := ports1 hn
    have hnz := net_sz hn
    have hn1 : netOf1 [D.sl (n.nodes.map nmRow), .sl (n.segs.map Seg.row), .sl (n.ports.map Port.row), .sl (n.sts.map Stn.row), di n.vap, di n.set] = some n := netOf1_row n
    simp (config := { maxSteps := 500000 }) only [↓vp, vv, implies_true, forall_const, undef, InI, ↓reduceIte, simprocAttr, TTd, selPlan, hn1, hv, hpp, a1.2, Pln.enc, plnD, netD]
    intro a2 p hp
    have hz := plan_sz hn hp
    have f0 := plan0 hck hp
    have hp1 : plnOf1 [D.sl (p.rates.map iRow), .sl (p.ports.map iRow), .sl (p.pumps.map bRow)] = some p := plnOf1_row p
    simp (config := { maxSteps := 500000 }) only [↓vp, vv, implies_true, forall_const, undef, InI, ↓reduceIte, simprocAttr, TTd, selWay, hn1, hn, a2.2, netD]
    intro a3 w hw
    have hwl : w.length ≤ 1000000 := by
      rcases hw with h | h
      · rw [h]; simp
      · have := h.1; omega
    have hw1 : lsOf tHopOf1 (w.map tHop) = some w := lsOf_map tHopOf1_row w
    cases hV : tolV n ⟨w, 0, 0⟩ with
    | false =>
      have hla : launD n w = .tup [.agg [.sl [], di 0, di 0], di 24] := by unfold launD; rw [hV, if_neg Bool.false_ne_true]; rfl
      simp (config := { maxSteps := 500000 }) only [↓vp, vv, implies_true, forall_const, undef, InI, ↓reduceIte, simprocAttr, c4_2, r4, TTd, TTo, selLaun, selAw, hn1, hw1, hnz, hck, hwl, hla, netD, Pu]
    | true =>
      have hla : launD n w = .tup [.agg [.sl (w.map tHop), di 0, di 0], di 0] := by unfold launD; rw [hV, if_pos rfl]; rfl
      have hT := (tolV_iff n ⟨w, 0, 0⟩).1 hV
      have wa : IntKind.i64.wrap (a : Int) = a := wrap_i (by omega)
      have wb : IntKind.i64.wrap (b : Int) = b := wrap_i (by omega)
      have ma := mod60 (i := a)
      have mb := mod60 (i := b)
      have la : a % 60 < 60 := Nat.mod_lt _ (by omega)
      have lb : b % 60 < 60 := Nat.mod_lt _ (by omega)
      generalize a % 60 = i at *
      generalize b % 60 = k at *
      have wik : IntKind.i64.wrap ((i : Int) + k) = ((i + k : Nat) : Int) := by rw [wrap_i (by omega)]; omega
      have ht1 : lsOf tolOf1 [[.sl (w.map tHop), di 0, di 0]] = some [⟨w, 0, 0⟩] := lsOf_map tolOf1_row [(⟨w, 0, 0⟩ : Tol)]
      have hT1 := hT.movK hv (p := p) i
      have hT2 := hT1.movK hv (p := p) k
      have rp1 : RunPre n p [⟨w, 0, 0⟩] (i : Int) := ⟨hz, f0, by simp, fun t ht => by rw [List.mem_singleton.1 ht]; exact hT, by omega⟩
      have rp3 : RunPre n p [⟨w, 0, 0⟩] ((i + k : Nat) : Int) := ⟨hz, f0, by simp, fun t ht => by rw [List.mem_singleton.1 ht]; exact hT, by omega⟩
      have rp2 : RunPre n p [movK n p i ⟨w, 0, 0⟩] (k : Int) := ⟨hz, f0, by simp, fun t ht => by rw [List.mem_singleton.1 ht]; exact hT1, by omega⟩
      have hadd := movK_add n p i k ⟨w, 0, 0⟩
      generalize hX : movK n p i ⟨w, 0, 0⟩ = X at *
      have hrec := mov_rec n p X
      generalize hY : movK n p k X = Y at *
      have hx1 : lsOf tolOf1 [[.sl (X.way.map tHop), di X.hop, di X.pos]] = some [X] := lsOf_map tolOf1_row [X]
      have hy1 : lsOf tolOf1 [[.sl (Y.way.map tHop), di Y.hop, di Y.pos]] = some [Y] := lsOf_map tolOf1_row [Y]
      have hx2 : tolOf1 [.sl (X.way.map tHop), di X.hop, di X.pos] = some X := tolOf1_row X
      have hxw : X.way.length ≤ 1000000 := by have := hT1.l; omega
      have hyw : Y.way.length ≤ 1000000 := by have := hT2.l; omega
      have hyy : (∀ t ∈ [Y], t.way.length ≤ 1000000) = True := eq_true fun t ht => by rw [List.mem_singleton.1 ht]; exact hyw
      have hxx : (∀ t ∈ [X], t.way.length ≤ 1000000) = True := eq_true fun t ht => by rw [List.mem_singleton.1 ht]; exact hxw
      cases hr : recB X with
      | false =>
        simp (config := { maxSteps := 500000 }) only [↓vp, vv, implies_true, forall_const, undef, InI, ↓reduceIte, simprocAttr, c4_2, c4_1, r4, TTd, TTo, selLaun, selRun, selTol, selSame, selAw, hn1, hp1, hw1, hnz, hck, hwl, hla, netD, plnD, wa, wb, ma, mb, wik, ht1, rp1, rp2, rp3, hX, hY, hadd, hx1, hy1, hx2, hyy, hxw, hyw, hr, Tol.row, List.map_cons, List.map_nil, bne_self_eq_false, Int.toNat_natCast, Pu]
      | true =>
        have hXY : X = Y := by
          have e : (X.hop == (X.way.length : Int)) = true := by
            unfold recB at hr
            split at hr
            · exact hr
            · cases hr
          exact (hrec e k).symm.trans hY
        have hXY' : ([X] = [Y]) = True := eq_true (by rw [hXY])
        simp (config := { maxSteps := 500000 }) only [↓vp, vv, implies_true, forall_const, undef, InI, ↓reduceIte, simprocAttr, c4_2, c4_1, r4, TTd, TTo, selLaun, selRun, selTol, selSame, selAw, hn1, hp1, hw1, hnz, hck, hwl, hla, netD, plnD, wa, wb, ma, mb, wik, ht1, rp1, rp2, rp3, hX, hY, hadd, hx1, hy1, hx2, hyy, hxx, hxw, hyw, hr, hXY', Tol.row, List.map_cons, List.map_nil, bne_self_eq_false, Int.toNat_natCast, Pu]
theorem ToolParts_law (a : Option Addr) (len cap : Nat) (i k : Int) (w : World) (h : ArgInts w a len cap) (h0 : 0 ≤ i) (h1 : i ≤ 255) (k0 : 0 ≤ k) (k1 : k ≤ 255) :
    Calls Try.prog 4 #[.slice a len cap, .int .u8 i, .int .u8 k] w (Ret (.bool true) w) := by
  refine law_ints (us := [.int .u8 i, .int .u8 k]) h fun ns hns => ?_
  have := TPt_c ns hns i.toNat k.toNat (by omega) (by omega) (0, 0)
  rw [show ((i.toNat : Nat) : Int) = i by omega, show ((k.toNat : Nat) : Int) = k by omega] at this
  exact this
end Go.Proofs.Ytkjibmfggeibjaa
