
/- ToolForecast: the walk. -/
import Derived.Test.YtkjibmfggeibjaaTo7
namespace Go.Proofs.Ytkjibmfggeibjaa
open Go
set_option linter.unusedVariables false
set_option linter.unusedSimpArgs false
set_option maxRecDepth 100000

theorem mov1_line (C r x : Int) : mov1 (lineN C) (planL r) ⟨[(0, false)], 0, x⟩ = if decide (C < pos0 (x + r)) = true then ⟨[(0, false)], 1, 0⟩ else ⟨[(0, false)], 0, pos0 (x + r)⟩ := rfl
theorem fore_at {C r : Nat} (hr : 1 ≤ r) : ∀ k : Nat, k * r ≤ C → movK (lineN C) (planL r) k t00 = ⟨[(0, false)], 0, ((k * r : Nat) : Int)⟩
  | 0, _ => by rw [Nat.zero_mul]; rfl
  | k + 1, h => by
    rw [Nat.add_mul, Nat.one_mul] at h
    rw [movK_succ, fore_at hr k (by omega), mov1_line, Nat.add_mul, Nat.one_mul]
    have e : pos0 (((k * r : Nat) : Int) + r) = ((k * r + r : Nat) : Int) := by unfold pos0; rw [if_pos (by omega)]; omega
    rw [e, decide_eq_false (by omega), if_neg Bool.false_ne_true]
theorem fore_in {C r k : Nat} (hr : 1 ≤ r) (h : k * r ≤ C) (h2 : C < k * r + r) : movK (lineN C) (planL r) (k + 1) t00 = ⟨[(0, false)], 1, 0⟩ := by
  rw [movK_succ, fore_at hr k h, mov1_line]
  have e : pos0 (((k * r : Nat) : Int) + r) = ((k * r + r : Nat) : Int) := by unfold pos0; rw [if_pos (by omega)]; omega
  rw [e, decide_eq_true (by omega), if_pos rfl]
def TFo (P : Program) : Tbl := tc 14 (rowPu selAw) (TTo P)
theorem TFo_ok : TblOk Try.prog (TFo Try.prog) := tc_pu f14_ok (fun args pre d h hp nn => by
  unfold selAw at h
  split at h
  · cases h; exact awake32_c nn
  · cases h) TTo_ok
set_option maxHeartbeats 16000000 in
theorem TFc_c (c q : Nat) (hc : c < 65536) (hq : q < 256) (nn : Nm) : CallsA Try.prog 3 [.v (.int .u16 c), .v (.int .u8 q)] Hp.none nn (Pu (db true) Hp.none) := by
  obtain ⟨code, h1, h2⟩ := c3_ok
  refine callsA_of TFo_ok mixed (N := fun t => (0, t)) Try.func3 h1 h2 r3_ok [] false js_nil js_nil' (by simp [Try.f3]) ?_
  have mc : (c : Int).tmod 400 = ((c % 400 : Nat) : Int) := (Int.ofNat_tmod c 400).symm
  have mq : (q : Int).tmod 20 = ((q % 20 : Nat) : Int) := (Int.ofNat_tmod q 20).symm
  have wc : IntKind.i64.wrap (c : Int) = c := wrap_i (by omega)
  have wq : IntKind.i64.wrap (q : Int) = q := wrap_i (by omega)
  obtain ⟨C, hC, hC1⟩ : ∃ C : Nat, 20 + ((c % 400 : Nat) : Int) = C ∧ 20 ≤ C ∧ C < 420 := ⟨20 + c % 400, by omega, by omega⟩
  obtain ⟨r, hr, hr1⟩ : ∃ r : Nat, 1 + ((q % 20 : Nat) : Int) = r ∧ 1 ≤ r ∧ r ≤ 20 := ⟨1 + q % 20, by omega, by omega⟩
  have wC : IntKind.i64.wrap (C : Int) = C := wrap_i (by omega)
  have wr : IntKind.i64.wrap (r : Int) = r := wrap_i (by omega)
  have wn : IntKind.i64.wrap (0 - (r : Int)) = -r := by rw [wrap_i (by omega)]; omega
  have hn1 : ∀ n : Net, netOf1 [D.sl (n.nodes.map nmRow), .sl (n.segs.map Seg.row), .sl (n.ports.map Port.row), .sl (n.sts.map Stn.row), di n.vap, di n.set] = some n := netOf1_row
  have hz := line_sz C
  have hck := line_ck hC1
  have hla : launD (lineN C) [(0, false)] = .tup [(⟨[(0, false)], 0, 0⟩ : Tol).enc, di 0] := by
    unfold launD
    have : tolV (lineN C) ⟨[(0, false)], 0, 0⟩ = true := line_t00.trans (decide_eq_true (by omega))
    rw [this, if_pos rfl]
  have hl1 : selLine [di (C : Int)] = some (True, .agg (netD (lineN C))) := rfl
  have hw1 : lsOf tHopOf1 [[di 0, db false]] = some [(0, false)] := rfl
  have ht1 : ∀ a b : Int, tolOf1 [.sl [[di 0, db false]], di a, di b] = some ⟨[(0, false)], a, b⟩ := fun _ _ => rfl
  have hp1 : plnOf1 [D.sl [[di (r : Int)]], .sl [[di (r : Int)], [di (-(r : Int))]], .sl []] = some (planL r) := rfl
  have hl2 : lsOf tolOf1 [[.sl [[di 0, db false]], di 0, di 0]] = some [t00] := rfl
  have gs : ((lineN C).segs.map Seg.row).getD 0 [] = [ds ⟨#[103]⟩, di 0, di 1, di (C : Int), di 0, di 0, .sl [[di 0, di 0, di 1000000], [di C, di 0, di 1000000]]] := rfl
  have gl : (lineN C).segs.length = 1 := rfl
  have s1 : (1 : Nat) ≤ 1000000 := by decide
  obtain ⟨k, hk⟩ : ∃ k : Nat, (C : Int).tdiv r = k := ⟨C / r, (Int.ofNat_tdiv C r).symm⟩
  have hkC : k = C / r := by have := Int.ofNat_tdiv C r; omega
  have hk1 : k * r ≤ C := by rw [hkC]; exact Nat.div_mul_le_self C r
  have hk2 : C < k * r + r := by
    rw [hkC]
    have := Nat.lt_div_mul_add (a := C) (b := r) (by omega)
    omega
  have hkb : k ≤ 419 := by
    have : k * 1 ≤ k * r := Nat.mul_le_mul_left k hr1.1
    omega
  have m1 := fore_at hr1.1 k hk1
  have m2 := fore_in hr1.1 hk1 hk2
  have wk : IntKind.i64.wrap ((k : Int) + 1) = ((k + 1 : Nat) : Int) := by rw [wrap_i (by omega)]; omega
  have ptk : (0 ≤ (C : Int) ∧ (C : Int) ≤ 1099511627776) ∧ 1 ≤ (r : Int) ∧ (r : Int) ≤ 1000 := ⟨⟨by omega, by omega⟩, by omega, by omega⟩
  have rp : ∀ j : Nat, j ≤ 400 → RunPre (lineN C) (planL r) [t00] (j : Int) := fun j hj => run_pre hC1 ⟨hr1.1, by omega⟩ j ⟨by omega, by omega⟩
  have hq3 : recB ⟨[(0, false)], 0, ((k * r : Nat) : Int)⟩ = false := rfl
  have hq4 : recB ⟨[(0, false)], 1, 0⟩ = true := rfl
  generalize lineN C = n at *
  simp (config := { maxSteps := 500000 }) only [↓vp, vv, implies_true, forall_const, undef, InI, ↓reduceIte, simprocAttr, c3, TFo, TTo, netD, wc, wq, mc, mq, hC, hr, wC, wr, wn, hl1]
  refine vc_wk ((weak_eq [] [(0, 5), (0, 7), (0, 26), (0, 30)] [(5, .ptr (0, 5) 0 0 0), (6, di r), (7, .ptr (0, 7) 0 0 0)]
      (H' := hp [((0, 5), ⟨0, 6, [netD n]⟩), ((0, 7), ⟨0, 3, [[.own (0, 26) 0 0 1, .own (0, 30) 0 0 2, .mt]]⟩), ((0, 26), ⟨0, 1, [[di r]]⟩), ((0, 30), ⟨0, 1, [[di r], [di (-(r : Int))]]⟩)])
      (by simp (config := { maxSteps := 500000 }) only [↓vp, vv, implies_true, forall_const, undef, InI, ↓reduceIte, simprocAttr, coverS]) (by simp (config := { maxSteps := 500000 }) only [↓vp, vv, implies_true, forall_const, undef, InI, ↓reduceIte, simprocAttr, refsF]) (by simp (config := { maxSteps := 500000 }) only [↓vp, vv, implies_true, forall_const, undef, InI, ↓reduceIte, simprocAttr, ]) (by simp) (by simp (config := { maxSteps := 500000 }) only [↓vp, vv, implies_true, forall_const, undef, InI, ↓reduceIte, simprocAttr, hp_cons, hp_nil, netD]; try rfl)).trans
      (weak_fz [(0, 26), (0, 30)] [(0, 5), (0, 7)] (l := [(5, .ptr (0, 5) 0 0 0), (6, di r), (7, .ptr (0, 7) 0 0 0)]) (h := _) (l' := [(5, .ptr (0, 5) 0 0 0), (6, di r), (7, .ptr (0, 7) 0 0 0)]) (H' := ((Hp.none.put (0, 7) ⟨0, 3, [[.sl [[di r]], .sl [[di r], [di (-(r : Int))]], .mt]]⟩).put (0, 5) ⟨0, 6, [netD n]⟩)) (by simp (config := { maxSteps := 500000 }) only [↓vp, vv, implies_true, forall_const, undef, InI, ↓reduceIte, simprocAttr, vz, listB, okKd, okK, lendKd, lendK, lendOk1B, frzF, Option.map_some, cond_true, cond_false, decide_true, decide_false, Bool.and_self, hp_at, netD]) (by simp (config := { maxSteps := 500000 }) only [↓vp, vv, implies_true, forall_const, undef, InI, ↓reduceIte, simprocAttr, vz, listB, okKd, okK, lendKd, lendK, lendOk1B, frzF, Option.map_some, cond_true, cond_false, decide_true, decide_false, Bool.and_self, hp_at, netD]) (by simp (config := { maxSteps := 500000 }) only [↓vp, vv, implies_true, forall_const, undef, InI, ↓reduceIte, simprocAttr, vz, listB, okKd, okK, lendKd, lendK, lendOk1B, frzF, Option.map_some, cond_true, cond_false, decide_true, decide_false, Bool.and_self, hp_at, netD]; try rfl) (by simp (config := { maxSteps := 500000 }) only [↓vp, vv, implies_true, forall_const, undef, InI, ↓reduceIte, simprocAttr, vz, listB, okKd, okK, lendKd, lendK, lendOk1B, frzF, Option.map_some, cond_true, cond_false, decide_true, decide_false, Bool.and_self, hp_at, netD]; try rfl) (by simp (config := { maxSteps := 500000 }) only [↓vp, vv, implies_true, forall_const, undef, InI, ↓reduceIte, simprocAttr, vz, listB, okKd, okK, lendKd, lendK, lendOk1B, frzF, Option.map_some, cond_true, cond_false, decide_true, decide_false, Bool.and_self, refsF, hp_at, netD]) (by simp (config := { maxSteps := 500000 }) only [↓vp, vv, implies_true, forall_const, undef, InI, ↓reduceIte, simprocAttr, vz, listB, okKd, okK, lendKd, lendK, lendOk1B, frzF, Option.map_some, cond_true, cond_false, decide_true, decide_false, Bool.and_self, hp_at, netD]) (by simp))) ?_
  by_cases hbig : 399 < k
  · have hb : decide ((399 : Int) < k) = true := decide_eq_true (by omega)
    simp (config := { maxSteps := 500000 }) only [↓vp, vv, implies_true, forall_const, undef, InI, ↓reduceIte, simprocAttr, c3_2, r3, TFo, TTo, selLaun, selTick, tickD, selAw, netD, hn1, hz, hck, hw1, hla, Tol.enc, Tol.row, tHop, List.map_cons, List.map_nil, gs, gl, ptk, hk, hb, Pu]
  · have hb : decide ((399 : Int) < k) = false := decide_eq_false (by omega)
    have rp1 := rp k (by omega)
    have rp2 := rp (k + 1) (by omega)
    simp (config := { maxSteps := 500000 }) only [↓vp, vv, implies_true, forall_const, undef, InI, ↓reduceIte, simprocAttr, c3_2, c3_1, r3, TFo, TTo, selLaun, selTick, selRun, selTol, tickD, selAw, netD, hn1, hz, hck, hw1, hla, Tol.enc, Tol.row, tHop, List.map_cons, List.map_nil, gs, gl, ptk, hk, hb, wk, hp1, hl2, ht1, rp1, rp2, m1, m2, hq3, hq4, s1, Int.toNat_natCast, Pu]
theorem ToolForecast_law (c q : Int) (w : World) (h0 : 0 ≤ c) (h1 : c ≤ 65535) (k0 : 0 ≤ q) (k1 : q ≤ 255) :
    Calls Try.prog 3 #[.int .u16 c, .int .u8 q] w (Ret (.bool true) w) := by
  refine law_plain (us := [.int .u16 c, .int .u8 q]) ?_
  have := TFc_c c.toNat q.toNat (by omega) (by omega) (0, 0)
  rw [show ((c.toNat : Nat) : Int) = c by omega, show ((q.toNat : Nat) : Int) = q by omega] at this
  exact this
end Go.Proofs.Ytkjibmfggeibjaa
