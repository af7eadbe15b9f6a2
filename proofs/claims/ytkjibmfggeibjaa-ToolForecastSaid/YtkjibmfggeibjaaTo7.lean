
/- Tools: the sanity check; ToolForecast. -/
import Derived.Test.YtkjibmfggeibjaaTo6
namespace Go.Proofs.Ytkjibmfggeibjaa
open Go
set_option linter.unusedVariables false
set_option linter.unusedSimpArgs false
set_option maxRecDepth 100000

def t00 : Tol := ⟨[(0, false)], 0, 0⟩
theorem line_t00 {C : Int} : tolV (lineN C) t00 = decide (0 ≤ C) := by rfl
theorem mov_3 : (movK (lineN 100) (planL 30) 3 t00) = ⟨[(0, false)], 0, 90⟩ := by rfl
theorem mov_4 : (movK (lineN 100) (planL 30) 4 t00) = ⟨[(0, false)], 1, 0⟩ := by rfl
theorem run_pre {C r : Nat} (h : 20 ≤ C ∧ C < 420) (hr : 1 ≤ r ∧ r ≤ C) (k : Int) (hk : 0 ≤ k ∧ k ≤ 400) : RunPre (lineN C) (planL r) [t00] k :=
  ⟨line_fsz _ _, line_f h hr, by simp, fun t ht => by
    rw [List.mem_singleton.1 ht]
    exact (tolV_iff _ _).1 (by rw [line_t00]; exact decide_eq_true (by omega)), hk⟩
set_option maxHeartbeats 16000000 in
theorem awake32_c (nn : Nm) : CallsA Try.prog 14 [] Hp.none nn (Pu (db true) Hp.none) := by
  obtain ⟨code, h1, h2⟩ := c14_ok
  refine callsA_of TTo_ok mixed (N := fun t => (0, t)) Try.func14 h1 h2 r14_ok [] false js_nil js_nil' (by simp [Try.f14]) ?_
  have hn1 : ∀ n : Net, netOf1 [D.sl (n.nodes.map nmRow), .sl (n.segs.map Seg.row), .sl (n.ports.map Port.row), .sl (n.sts.map Stn.row), di n.vap, di n.set] = some n := netOf1_row
  have hz := line_sz 100
  have hck : checkI (lineN 100) = 0 := line_ck (C := 100) (by decide)
  have rp3 : RunPre (lineN 100) (planL 30) [t00] 3 := run_pre (C := 100) (r := 30) (by decide) (by decide) 3 (by decide)
  have rp4 : RunPre (lineN 100) (planL 30) [t00] 4 := run_pre (C := 100) (r := 30) (by decide) (by decide) 4 (by decide)
  have m3 := mov_3
  have m4 := mov_4
  have hla : launD (lineN 100) [(0, false)] = .tup [(⟨[(0, false)], 0, 0⟩ : Tol).enc, di 0] := rfl
  have hl1 : selLine [di 100] = some (True, .agg (netD (lineN 100))) := rfl
  have hw1 : lsOf tHopOf1 [[di 0, db false]] = some [(0, false)] := rfl
  have ht1 : ∀ a b : Int, tolOf1 [.sl [[di 0, db false]], di a, di b] = some ⟨[(0, false)], a, b⟩ := fun _ _ => rfl
  have hp1 : plnOf1 [D.sl [[di 30]], .sl [[di 30], [di (-30)]], .sl []] = some (planL 30) := rfl
  have hl2 : lsOf tolOf1 [[.sl [[di 0, db false]], di 0, di 0]] = some [t00] := rfl
  have v4 : tolV (lineN 100) ⟨[(0, false)], 1, 0⟩ = true := rfl
  have s1 : (1 : Nat) ≤ 1000000 := by decide
  generalize lineN 100 = n at *
  simp (config := { maxSteps := 500000 }) only [↓vp, vv, implies_true, forall_const, undef, InI, ↓reduceIte, simprocAttr, c14, TTo, selLaun, netD, hl1, hn1, hz, hck, hw1, hla, Tol.enc, Tol.row, tHop, List.map_cons, List.map_nil]
  refine vc_wk ((weak_eq [] [(0, 1), (0, 2), (0, 4), (0, 17), (0, 18)] [(1, .ptr (0, 1) 0 0 0), (2, .ptr (0, 2) 0 0 0), (3, di 0), (4, .ptr (0, 4) 0 0 0)]
      (H' := hp [((0, 1), ⟨0, 6, [netD n]⟩), ((0, 2), ⟨0, 3, [[.sl [[di 0, db false]], di 0, di 0]]⟩), ((0, 4), ⟨0, 3, [[.own (0, 17) 0 0 1, .own (0, 18) 0 0 2, .mt]]⟩), ((0, 17), ⟨0, 1, [[di 30]]⟩), ((0, 18), ⟨0, 1, [[di 30], [di (-30)]]⟩)])
      (by simp (config := { maxSteps := 500000 }) only [↓vp, vv, implies_true, forall_const, undef, InI, ↓reduceIte, simprocAttr, coverS]) (by simp (config := { maxSteps := 500000 }) only [↓vp, vv, implies_true, forall_const, undef, InI, ↓reduceIte, simprocAttr, refsF]) (by simp (config := { maxSteps := 500000 }) only [↓vp, vv, implies_true, forall_const, undef, InI, ↓reduceIte, simprocAttr, ]) (by simp) (by simp (config := { maxSteps := 500000 }) only [↓vp, vv, implies_true, forall_const, undef, InI, ↓reduceIte, simprocAttr, hp_cons, hp_nil, netD]; try rfl)).trans
      (weak_fz [(0, 17), (0, 18)] [(0, 1), (0, 2), (0, 4)] (l := [(1, .ptr (0, 1) 0 0 0), (2, .ptr (0, 2) 0 0 0), (3, di 0), (4, .ptr (0, 4) 0 0 0)]) (h := _) (l' := [(1, .ptr (0, 1) 0 0 0), (2, .ptr (0, 2) 0 0 0), (3, di 0), (4, .ptr (0, 4) 0 0 0)]) (H' := (((Hp.none.put (0, 4) ⟨0, 3, [[.sl [[di 30]], .sl [[di 30], [di (-30)]], .mt]]⟩).put (0, 2) ⟨0, 3, [[.sl [[di 0, db false]], di 0, di 0]]⟩).put (0, 1) ⟨0, 6, [netD n]⟩)) (by simp (config := { maxSteps := 500000 }) only [↓vp, vv, implies_true, forall_const, undef, InI, ↓reduceIte, simprocAttr, vz, listB, okKd, okK, lendKd, lendK, lendOk1B, frzF, Option.map_some, cond_true, cond_false, decide_true, decide_false, Bool.and_self, hp_at, netD]) (by simp (config := { maxSteps := 500000 }) only [↓vp, vv, implies_true, forall_const, undef, InI, ↓reduceIte, simprocAttr, vz, listB, okKd, okK, lendKd, lendK, lendOk1B, frzF, Option.map_some, cond_true, cond_false, decide_true, decide_false, Bool.and_self, hp_at, netD]) (by simp (config := { maxSteps := 500000 }) only [↓vp, vv, implies_true, forall_const, undef, InI, ↓reduceIte, simprocAttr, vz, listB, okKd, okK, lendKd, lendK, lendOk1B, frzF, Option.map_some, cond_true, cond_false, decide_true, decide_false, Bool.and_self, hp_at, netD]; try rfl) (by simp (config := { maxSteps := 500000 }) only [↓vp, vv, implies_true, forall_const, undef, InI, ↓reduceIte, simprocAttr, vz, listB, okKd, okK, lendKd, lendK, lendOk1B, frzF, Option.map_some, cond_true, cond_false, decide_true, decide_false, Bool.and_self, hp_at, netD]; try rfl) (by simp (config := { maxSteps := 500000 }) only [↓vp, vv, implies_true, forall_const, undef, InI, ↓reduceIte, simprocAttr, vz, listB, okKd, okK, lendKd, lendK, lendOk1B, frzF, Option.map_some, cond_true, cond_false, decide_true, decide_false, Bool.and_self, refsF, hp_at, netD]) (by simp (config := { maxSteps := 500000 }) only [↓vp, vv, implies_true, forall_const, undef, InI, ↓reduceIte, simprocAttr, vz, listB, okKd, okK, lendKd, lendK, lendOk1B, frzF, Option.map_some, cond_true, cond_false, decide_true, decide_false, Bool.and_self, hp_at, netD]) (by simp))) ?_
  have r3 : recB ⟨[(0, false)], 0, 90⟩ = false := rfl
  have r4 : recB ⟨[(0, false)], 1, 0⟩ = true := rfl
  simp (config := { maxSteps := 500000 }) only [↓vp, vv, implies_true, forall_const, undef, InI, ↓reduceIte, simprocAttr, c14_1, TTo, selRun, selTol, selTVal, r14, netD, hn1, hz, hck, hp1, hl2, ht1, rp3, rp4, m3, m4, r3, r4, v4, s1, Tol.row, Tol.enc, tHop, List.map_cons, List.map_nil, Pu]
end Go.Proofs.Ytkjibmfggeibjaa
