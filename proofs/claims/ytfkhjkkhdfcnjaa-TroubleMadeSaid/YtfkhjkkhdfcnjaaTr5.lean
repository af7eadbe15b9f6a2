
/- What laws about troubles call. -/
import Derived.Test.YtfkhjkkhdfcnjaaTrLaw
import Derived.Test.YtfkhjkkhdfcnjaaNw
namespace Go.Proofs.Ytfkhjkkhdfcnjaa
open Go
set_option linter.unusedVariables false
set_option linter.unusedSimpArgs false
set_option maxRecDepth 100000

set_option maxHeartbeats 2000000 in
theorem Few_c (L : List (List D)) (nn : Nm) : CallsA Try.prog 15 [.sl L] Hp.none nn (Pu (db (decide ((L.length : Int) ≤ 400))) Hp.none) := by
  obtain ⟨code, h1, h2⟩ := c15_ok
  refine callsA_of (T0_ok _) mixed (N := fun t => (0, t)) Try.func15 h1 h2 r15_ok [] false js_nil js_nil' (by simp [Try.f15]) ?_
  simp (config := { maxSteps := 500000 }) only [↓vp, vv, implies_true, forall_const, undef, InI, ↓reduceIte, simprocAttr, c15, r15, Pu]
def selFew : List D → Option (Prop × D)
  | [.sl L] => some (True, db (decide ((L.length : Int) ≤ 400)))
  | _ => Option.none
def selLeak (k : Int) : List D → Option (Prop × D)
  | [.sl rows, .v (.int .i64 i), .v (.int .i64 t)] => match troOf rows with
    | some l => some (l.length ≤ 1000000, di (trSum l k i t))
    | _ => Option.none
  | _ => Option.none
def selStop (k : Int) : List D → Option (Prop × D)
  | [.sl rows, .v (.int .i64 i), .v (.int .i64 t)] => match troOf rows with
    | some l => some (l.length ≤ 1000000, db (trHas l k i t))
    | _ => Option.none
  | _ => Option.none
def selNext : List D → Option (Prop × D)
  | [.sl rows, .v (.int .i64 t)] => match troOf rows with
    | some l => some (l.length ≤ 1000000, .tup [di (trNext l t).1, db (trNext l t).2])
    | _ => Option.none
  | _ => Option.none
def TT4 : Tbl := tc 72 (rowPu selNext) (tc 73 (rowPu (selLeak 1)) (tc 86 (rowPu (selLeak 2)) (tc 88 (rowPu (selStop 3)) (tc 90 (rowPu (selStop 4)) T0))))
theorem TT4_ok : TblOk Try.prog TT4 := by
  refine tc_pu f72_ok (fun args pre d h hp nn => ?_) (tc_pu f73_ok (fun args pre d h hp nn => ?_) (tc_pu f86_ok (fun args pre d h hp nn => ?_) (tc_pu f88_ok (fun args pre d h hp nn => ?_) (tc_pu f90_ok (fun args pre d h hp nn => ?_) (T0_ok _)))))
  · unfold selNext at h
    split at h
    · split at h
      · rename_i hm; cases h; rw [troOf_eq hm]; exact Next_c _ _ hp nn
      · cases h
    · cases h
  · unfold selLeak at h
    split at h
    · split at h
      · rename_i hm; cases h; rw [troOf_eq hm]; exact Leak_c _ _ _ hp nn
      · cases h
    · cases h
  · unfold selLeak at h
    split at h
    · split at h
      · rename_i hm; cases h; rw [troOf_eq hm]; exact Drift_c _ _ _ hp nn
      · cases h
    · cases h
  · unfold selStop at h
    split at h
    · split at h
      · rename_i hm; cases h; rw [troOf_eq hm]; exact Stopped_c _ _ _ hp nn
      · cases h
    · cases h
  · unfold selStop at h
    split at h
    · split at h
      · rename_i hm; cases h; rw [troOf_eq hm]; exact Stuck_c _ _ _ hp nn
      · cases h
    · cases h
set_option maxHeartbeats 4000000 in
theorem awake42_c (nn : Nm) : CallsA Try.prog 16 [] Hp.none nn (Pu (db true) Hp.none) := by
  obtain ⟨code, h1, h2⟩ := c16_ok
  refine callsA_of TT4_ok mixed (N := fun t => (0, t)) Try.func16 h1 h2 r16_ok [] false js_nil js_nil' (by simp [Try.f16]) ?_
  have t1 : troOf [[.v (.int .i64 1), .v (.int .i64 0), .v (.int .i64 5), .v (.int .i64 10), .v (.int .i64 12)]] = some [⟨1, 0, 5, 10, 12⟩] := rfl
  have a1 : trNext [⟨1, 0, 5, 10, 12⟩] 10 = (12, true) := by decide
  have a2 : trSum [⟨1, 0, 5, 10, 12⟩] 1 0 9 = 0 := by decide
  have a3 : trSum [⟨1, 0, 5, 10, 12⟩] 1 0 10 = 5 := by decide
  have a4 : trSum [⟨1, 0, 5, 10, 12⟩] 1 0 11 = 5 := by decide
  have a5 : trSum [⟨1, 0, 5, 10, 12⟩] 1 0 12 = 0 := by decide
  simp (config := { maxSteps := 500000 }) only [↓vp, vv, implies_true, forall_const, undef, InI, ↓reduceIte, simprocAttr, c16, r16, TT4, selNext, selLeak, t1, a1, a2, a3, a4, a5, Pu]
def selTrs : List D → Option (Prop × (List Tro → Prop))
  | [.agg [.sl a, .sl b, .sl c, .sl d, .v (.int .i64 v), .v (.int .i64 s)], .v (.int .i64 m)] => some ((1 ≤ b.length ∧ b.length ≤ 1000000) ∧ (1 ≤ c.length ∧ c.length ≤ 1000000) ∧ 0 ≤ m ∧ m ≤ 1000, TrsOk b.length c.length m)
  | _ => Option.none
def TT5 : Tbl := tc 15 (rowPu selFew) (tc 16 (rowPu selAw) (tc 17 rowNew (tc 18 (rowSrc (sel0 NetOk) Net.enc) (tc 19 (rowSrc selTrs TrEnc) TT4))))
theorem TT5_ok : TblOk Try.prog TT5 := by
  refine tc_pu f15_ok (fun args pre d h hp nn => ?_) (tc_pu f16_ok (fun args pre d h hp nn => ?_) (tc_new (tc_net (tc_src f19_ok (fun args pre post h hp => ?_) TT4_ok))))
  · unfold selFew at h
    split at h <;> cases h
    exact Few_c _ nn
  · unfold selAw at h
    split at h <;> cases h
    exact awake42_c nn
  · unfold selTrs at h
    split at h <;> cases h
    obtain ⟨h1, h2, h3⟩ := hp
    exact ⟨⟨[], by simp; omega, fun x hx => (by cases hx)⟩, Troubles_c _ _ _ _ _ _ _ h1 h2 h3⟩
end Go.Proofs.Ytfkhjkkhdfcnjaa
