
/- What laws about troubles call. -/
import Derived.Test.YtiaenojpbiahgaaTrLaw
namespace Go.Proofs.Ytiaenojpbiahgaa
open Go
set_option linter.unusedVariables false
set_option linter.unusedSimpArgs false
set_option maxRecDepth 100000

set_option maxHeartbeats 2000000 in
theorem Few_c (L : List (List D)) (nn : Nm) : CallsA Try.prog 12 [.sl L] Hp.none nn (Pu (db (decide ((L.length : Int) ≤ 400))) Hp.none) := by
  obtain ⟨code, h1, h2⟩ := c12_ok
  refine callsA_of (T0_ok _) mixed (N := fun t => (0, t)) Try.func12 h1 h2 r12_ok [] false js_nil js_nil' (by simp [Try.f12]) ?_
  simp (config := { maxSteps := 500000 }) only [↓vp, implies_true, forall_const, v1, v2, v3, v4, v5, v6, v7, v8, Int.reduceBEq, Nat.reduceEqDiff, Nat.reduceAdd, Nat.reduceSub, Nat.reduceMul, Nat.reduceLT, Nat.reduceLeDiff, ↓reduceIte, reduceCtorEq, undef, InI, Int.reduceNeg, Int.reduceSub, Int.reduceLE, Int.reduceLT, Int.reduceAdd, Int.reduceMul, Int.reduceToNat, reduceIte, c12, r12, Pu]
def selFew : List D → Option (Prop × D)
  | [.sl L] => some (True, db (decide ((L.length : Int) ≤ 400)))
  | _ => Option.none
/-- The row of keep.New. -/
def rowNew : List D → Hp → Nm → Option (Prop × (D → Hp → Prop)) := fun args Hs nn =>
  match args with
  | [.sl L] => some (Hs = Hp.none, Pu (.ptr nn 0 0 0) (Hp.none.put nn (sE (L.take 2000) 0)))
  | _ => Option.none
theorem tc_new {T : Tbl} (hT : TblOk Try.prog T) : TblOk Try.prog (tc 14 rowNew T) :=
  tc_row f14_ok (fun args Hs nn pre R hr hp => by
    unfold rowNew at hr
    split at hr
    · cases hr
      subst hp
      exact ⟨⟨_, _, rfl, rfl⟩, New_c _ nn⟩
    · cases hr) hT
theorem AllI.one {α : Type} {P : Nat → α → Prop} {x : α} (h : P 0 x) : AllI P [x] := (AllI.nil P).snoc h
theorem AllI.two {α : Type} {P : Nat → α → Prop} {x y : α} (h : P 0 x) (k : P 1 y) : AllI P [x, y] := (AllI.one h).snoc k
theorem netOk_ex : NetOk ⟨[nm1B ⟨#[110]⟩ 0, nm1B ⟨#[110]⟩ 1], [⟨nm1B ⟨#[103]⟩ 0, 0, 1, 1, 0, 0, [⟨0, 0, 0⟩, ⟨1, 0, 0⟩]⟩], [⟨nm1B ⟨#[113]⟩ 0, 0, 0⟩, ⟨nm1B ⟨#[113]⟩ 1, 1, 0⟩], [], 0, 0⟩ := by
  refine ⟨AllI.two rfl rfl, by simp, AllI.one ⟨0, 1, by simp, by simp, by simp, segOk_ex _ _ _, fun _ => ⟨rfl, rfl⟩⟩, by simp, ⟨AllI.two ⟨rfl, by simp, by simp, by simp, by simp⟩ ⟨rfl, by simp, by simp, by simp, by simp⟩, by simp, fun _ => rfl, fun _ => rfl, by simp⟩, ⟨AllI.nil _, List.Pairwise.nil, by simp⟩, by simp, by simp⟩
theorem tc_net {T : Tbl} (hT : TblOk Try.prog T) : TblOk Try.prog (tc 15 (rowSrc (sel0 NetOk) Net.enc) T) :=
  tc_src f15_ok (fun args pre post h hp => by
    unfold sel0 at h
    split at h <;> cases h
    exact ⟨⟨_, netOk_ex⟩, Network_c⟩) hT
def selLeak (k : Int) : List D → Option (Prop × D)
  | [.sl rows, .v (.int .i64 i), .v (.int .i64 t)] => match troOf rows with
    | some l => some (l.length ≤ 1000000, di (trSum l k i t))
    | _ => Option.none
  | _ => Option.none
def selStop (k : Int) : List D → Option (Prop × D)
  | [.sl rows, .v (.int .i64 i), .v (.int .i64 t)] => match troOf rows with
    | some l => some (l.length ≤ 1000000, db (trHas l k i t))
    | _ => Option.none
  | _ => Option.none
def selNext : List D → Option (Prop × D)
  | [.sl rows, .v (.int .i64 t)] => match troOf rows with
    | some l => some (l.length ≤ 1000000, .tup [di (trNext l t).1, db (trNext l t).2])
    | _ => Option.none
  | _ => Option.none
def TT4 : Tbl := tc 17 (rowPu selNext) (tc 18 (rowPu (selLeak 1)) (tc 19 (rowPu (selLeak 2)) (tc 21 (rowPu (selStop 3)) (tc 20 (rowPu (selStop 4)) T0))))
theorem TT4_ok : TblOk Try.prog TT4 := by
  refine tc_pu f17_ok (fun args pre d h hp nn => ?_) (tc_pu f18_ok (fun args pre d h hp nn => ?_) (tc_pu f19_ok (fun args pre d h hp nn => ?_) (tc_pu f21_ok (fun args pre d h hp nn => ?_) (tc_pu f20_ok (fun args pre d h hp nn => ?_) (T0_ok _)))))
  · unfold selNext at h
    split at h
    · split at h
      · rename_i hm; cases h; rw [troOf_eq hm]; exact Next_c _ _ hp nn
      · cases h
    · cases h
  · unfold selLeak at h
    split at h
    · split at h
      · rename_i hm; cases h; rw [troOf_eq hm]; exact Leak_c _ _ _ hp nn
      · cases h
    · cases h
  · unfold selLeak at h
    split at h
    · split at h
      · rename_i hm; cases h; rw [troOf_eq hm]; exact Drift_c _ _ _ hp nn
      · cases h
    · cases h
  · unfold selStop at h
    split at h
    · split at h
      · rename_i hm; cases h; rw [troOf_eq hm]; exact Stopped_c _ _ _ hp nn
      · cases h
    · cases h
  · unfold selStop at h
    split at h
    · split at h
      · rename_i hm; cases h; rw [troOf_eq hm]; exact Stuck_c _ _ _ hp nn
      · cases h
    · cases h
set_option maxHeartbeats 4000000 in
theorem awake42_c (nn : Nm) : CallsA Try.prog 13 [] Hp.none nn (Pu (db true) Hp.none) := by
  obtain ⟨code, h1, h2⟩ := c13_ok
  refine callsA_of TT4_ok mixed (N := fun t => (0, t)) Try.func13 h1 h2 r13_ok [] false js_nil js_nil' (by simp [Try.f13]) ?_
  have t1 : troOf [[.v (.int .i64 1), .v (.int .i64 0), .v (.int .i64 5), .v (.int .i64 10), .v (.int .i64 12)]] = some [⟨1, 0, 5, 10, 12⟩] := rfl
  have a1 : trNext [⟨1, 0, 5, 10, 12⟩] 10 = (12, true) := by decide
  have a2 : trSum [⟨1, 0, 5, 10, 12⟩] 1 0 9 = 0 := by decide
  have a3 : trSum [⟨1, 0, 5, 10, 12⟩] 1 0 10 = 5 := by decide
  have a4 : trSum [⟨1, 0, 5, 10, 12⟩] 1 0 11 = 5 := by decide
  have a5 : trSum [⟨1, 0, 5, 10, 12⟩] 1 0 12 = 0 := by decide
  simp (config := { maxSteps := 500000 }) only [↓vp, implies_true, forall_const, v1, v2, v3, v4, v5, v6, v7, v8, Int.reduceBEq, Nat.reduceEqDiff, Nat.reduceAdd, Nat.reduceSub, Nat.reduceMul, Nat.reduceLT, Nat.reduceLeDiff, ↓reduceIte, reduceCtorEq, undef, InI, Int.reduceNeg, Int.reduceSub, Int.reduceLE, Int.reduceLT, Int.reduceAdd, Int.reduceMul, Int.reduceToNat, reduceIte, c13, r13, TT4, selNext, selLeak, t1, a1, a2, a3, a4, a5, Pu]
def selAw : List D → Option (Prop × D)
  | [] => some (True, db true)
  | _ => Option.none
def selTrs : List D → Option (Prop × (List Tro → Prop))
  | [.agg [.sl a, .sl b, .sl c, .sl d, .v (.int .i64 v), .v (.int .i64 s)], .v (.int .i64 m)] => some ((1 ≤ b.length ∧ b.length ≤ 1000000) ∧ (1 ≤ c.length ∧ c.length ≤ 1000000) ∧ 0 ≤ m ∧ m ≤ 1000, TrsOk b.length c.length m)
  | _ => Option.none
def TT5 : Tbl := tc 12 (rowPu selFew) (tc 13 (rowPu selAw) (tc 14 rowNew (tc 15 (rowSrc (sel0 NetOk) Net.enc) (tc 16 (rowSrc selTrs TrEnc) TT4))))
theorem TT5_ok : TblOk Try.prog TT5 := by
  refine tc_pu f12_ok (fun args pre d h hp nn => ?_) (tc_pu f13_ok (fun args pre d h hp nn => ?_) (tc_new (tc_net (tc_src f16_ok (fun args pre post h hp => ?_) TT4_ok))))
  · unfold selFew at h
    split at h <;> cases h
    exact Few_c _ nn
  · unfold selAw at h
    split at h <;> cases h
    exact awake42_c nn
  · unfold selTrs at h
    split at h <;> cases h
    obtain ⟨h1, h2, h3⟩ := hp
    exact ⟨⟨[], by simp; omega, fun x hx => (by cases hx)⟩, Troubles_c _ _ _ _ _ _ _ h1 h2 h3⟩
end Go.Proofs.Ytiaenojpbiahgaa
