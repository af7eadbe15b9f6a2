
/- Networks: limits, form; what the checks look for. -/
import Derived.Test.YtkjibmfggeibjaaNk1
namespace Go.Proofs.Ytkjibmfggeibjaa
open Go
set_option linter.unusedVariables false
set_option linter.unusedSimpArgs false
set_option maxRecDepth 100000

def netD (n : Net) : List D := [.sl (n.nodes.map nmRow), .sl (n.segs.map Seg.row), .sl (n.ports.map Port.row), .sl (n.sts.map Stn.row), di n.vap, di n.set]
theorem enc_eq (n : Net) : n.enc = .agg (netD n) := rfl
/-- A network of a size that the checks can count. -/
structure NetSz (n : Net) : Prop where
  nodes : n.nodes.length ≤ 1000000
  segs : n.segs.length ≤ 1000000
  ports : n.ports.length ≤ 1000000
  sts : n.sts.length ≤ 1000000
  pts : ∀ s ∈ n.segs, s.points.length ≤ 1000000
theorem Seg.done (s : Seg) : doneL s.row = true := rfl
theorem Port.done (s : Port) : doneL s.row = true := rfl
theorem Stn.done (s : Stn) : doneL s.row = true := rfl
def ptsBad (s : Seg) : Bool := if decide ((s.points.length : Int) < 2) = true then true else decide ((8 : Int) < s.points.length)
def limB (n : Net) : Bool := if (n.nodes.length : Int) < 1 then false else if (24 : Int) < n.nodes.length then false else if (32 : Int) < n.segs.length then false else if (24 : Int) < n.ports.length then false else if (12 : Int) < n.sts.length then false else !(n.segs.any ptsBad)
set_option maxHeartbeats 4000000 in
theorem lim1_c (s : Seg) (nn : Nm) : CallsA Try.prog 179 [.agg s.row] Hp.none nn (Pu (db (ptsBad s)) Hp.none) := by
  obtain ⟨code, h1, h2⟩ := c179_ok
  refine callsA_of (T0_ok _) mixed (N := fun t => (0, t)) Try.func179 h1 h2 r179_ok [] false js_nil js_nil' (by simp [Try.f179]) ?_
  cases a1 : decide ((s.points.length : Int) < 2) <;> simp (config := { maxSteps := 500000 }) only [↓vp, vv, implies_true, forall_const, undef, InI, ↓reduceIte, simprocAttr, c179, r179, Seg.row, a1, ptsBad, Pu]
/-- Segments out of rows. -/
def ptsOf : List (List D) → Option (List Pt)
  | [] => some []
  | [.v (.int .i64 a), .v (.int .i64 b), .v (.int .i64 c)] :: l => match ptsOf l with
    | some ts => some (⟨a, b, c⟩ :: ts)
    | Option.none => Option.none
  | _ => Option.none
theorem ptsOf_map : ∀ (l : List Pt), ptsOf (l.map Pt.row) = some l
  | [] => rfl
  | t :: l => by
    show ptsOf (t.row :: l.map Pt.row) = _
    rw [Pt.row, ptsOf, ptsOf_map l]
theorem ptsOf_eq : ∀ {l : List (List D)} {ts : List Pt}, ptsOf l = some ts → l = ts.map Pt.row
  | [], ts, h => by rw [ptsOf] at h; cases h; rfl
  | r :: l, ts, h => by
    unfold ptsOf at h
    split at h
    · rename_i heq; cases heq
    · rename_i heq
      cases heq
      split at h
      · rename_i hm; cases h; rw [ptsOf_eq hm]; rfl
      · cases h
    · cases h
def segOf1 : List D → Option Seg
  | [.v (.string s), .v (.int .i64 a), .v (.int .i64 b), .v (.int .i64 c), .v (.int .i64 d), .v (.int .i64 e), .sl p] => match ptsOf p with
    | some ps => some ⟨s, a, b, c, d, e, ps⟩
    | Option.none => Option.none
  | _ => Option.none
theorem segOf1_row (s : Seg) : segOf1 s.row = some s := by unfold Seg.row segOf1; simp only [ptsOf_map]
theorem segOf1_eq {r : List D} {s : Seg} (h : segOf1 r = some s) : r = s.row := by
  unfold segOf1 at h
  split at h
  · split at h
    · rename_i hm; cases h; rw [ptsOf_eq hm]; rfl
    · cases h
  · cases h
def portOf1 : List D → Option Port
  | [.v (.string s), .v (.int .i64 a), .v (.int .i64 b)] => some ⟨s, a, b⟩
  | _ => Option.none
theorem portOf1_row (s : Port) : portOf1 s.row = some s := rfl
theorem portOf1_eq {r : List D} {s : Port} (h : portOf1 r = some s) : r = s.row := by
  unfold portOf1 at h
  split at h
  · cases h; rfl
  · cases h
def stnOf1 : List D → Option Stn
  | [.v (.string s), .v (.int .i64 a), .v (.int .i64 b), .v (.int .i64 c), .v (.int .i64 d)] => some ⟨s, a, b, c, d⟩
  | _ => Option.none
theorem stnOf1_row (s : Stn) : stnOf1 s.row = some s := rfl
theorem stnOf1_eq {r : List D} {s : Stn} (h : stnOf1 r = some s) : r = s.row := by
  unfold stnOf1 at h
  split at h
  · cases h; rfl
  · cases h
def nmOf1 : List D → Option ByteArray
  | [.v (.string s)] => some s
  | _ => Option.none
theorem nmOf1_row (s : ByteArray) : nmOf1 (nmRow s) = some s := rfl
theorem nmOf1_eq {r : List D} {s : ByteArray} (h : nmOf1 r = some s) : r = nmRow s := by
  unfold nmOf1 at h
  split at h
  · cases h; rfl
  · cases h
/-- Lists out of rows. -/
def lsOf {α : Type} (f : List D → Option α) : List (List D) → Option (List α)
  | [] => some []
  | r :: l => match f r, lsOf f l with
    | some x, some xs => some (x :: xs)
    | _, _ => Option.none
theorem lsOf_map {α : Type} {f : List D → Option α} {g : α → List D} (h : ∀ x, f (g x) = some x) : ∀ (l : List α), lsOf f (l.map g) = some l
  | [] => rfl
  | x :: l => by rw [List.map_cons, lsOf, h x, lsOf_map h l]
theorem lsOf_eq {α : Type} {f : List D → Option α} {g : α → List D} (h : ∀ r x, f r = some x → r = g x) : ∀ {l : List (List D)} {xs : List α}, lsOf f l = some xs → l = xs.map g
  | [], xs, e => by rw [lsOf] at e; cases e; rfl
  | r :: l, xs, e => by
    rw [lsOf] at e
    split at e
    · rename_i h1 h2
      cases e
      rw [h r _ h1, lsOf_eq h h2]; rfl
    · cases e
def netOf1 : List D → Option Net
  | [.sl a, .sl b, .sl c, .sl d, .v (.int .i64 v), .v (.int .i64 s)] => match lsOf nmOf1 a, lsOf segOf1 b, lsOf portOf1 c, lsOf stnOf1 d with
    | some x, some y, some z, some u => some ⟨x, y, z, u, v, s⟩
    | _, _, _, _ => Option.none
  | _ => Option.none
theorem netOf1_row (n : Net) : netOf1 (netD n) = some n := by
  unfold netD netOf1
  simp only [lsOf_map nmOf1_row, lsOf_map segOf1_row, lsOf_map portOf1_row, lsOf_map stnOf1_row]
theorem netOf1_eq {r : List D} {n : Net} (h : netOf1 r = some n) : r = netD n := by
  unfold netOf1 at h
  split at h
  · split at h
    · rename_i e1 e2 e3 e4
      cases h
      rw [lsOf_eq (fun r x => nmOf1_eq) e1, lsOf_eq (fun r x => segOf1_eq) e2, lsOf_eq (fun r x => portOf1_eq) e3, lsOf_eq (fun r x => stnOf1_eq) e4]
      rfl
    · cases h
  · cases h
/-- The row of a pure function of networks. -/
def selNet (out : Net → D) : List D → Option (Prop × D)
  | [.agg r] => match netOf1 r with
    | some n => some (NetSz n, out n)
    | Option.none => Option.none
  | _ => Option.none
theorem tc_netf {f : FuncId} {out : Net → D} {T : Tbl} (hf : fnOk Try.prog f = true) (h : ∀ n, NetSz n → ∀ nn, CallsA Try.prog f [n.enc] Hp.none nn (Pu (out n) Hp.none)) (hT : TblOk Try.prog T) : TblOk Try.prog (tc f (rowPu (selNet out)) T) :=
  tc_pu hf (fun args pre d hs hp nn => by
    unfold selNet at hs
    split at hs
    · split at hs
      · rename_i n hn
        cases hs
        rw [netOf1_eq hn]
        exact h n hp nn
      · cases hs
    · cases hs) hT
/-- A question about one row, out of a question about what it is. -/
def qRow {α : Type} (f : List D → Option α) (q : α → Bool) (d : D) : Bool :=
  match d with
  | .agg r => match f r with
    | some x => q x
    | Option.none => false
  | d => match f [d] with
    | some x => q x
    | Option.none => false
theorem qRow_agg {α : Type} {f : List D → Option α} {q : α → Bool} {r : List D} {x : α} (h : f r = some x) : qRow f q (.agg r) = q x := by unfold qRow; simp only [h]
set_option maxHeartbeats 4000000 in
theorem limits_c (n : Net) (hz : NetSz n) (nn : Nm) : CallsA Try.prog 141 [n.enc] Hp.none nn (Pu (db (limB n)) Hp.none) := by
  obtain ⟨code, h1, h2⟩ := c141_ok
  have hT : TblOk Try.prog (tc 178 (rowPu (selQ Try.prog true 7 (fun g l => qRow segOf1 ptsBad) outC)) T0) := by
    refine tc_pu f178_ok (fun args pre d h hp nn => ?_) (T0_ok _)
    unfold selQ at h
    split at h
    · split at h
      · rename_i hi
        cases h
        rw [ipsOf_eq hi]
        exact hasF_G _ _ _ _ hp nn
      · cases h
    · cases h
  have hq : QOk Try.prog true 7 (qRow segOf1 ptsBad) 179 [] (n.segs.map Seg.row) := by
    refine ⟨f179_ok, by simp; have := hz.segs; omega, fun r hr => ?_⟩
    obtain ⟨x, _, rfl⟩ := List.mem_map.1 hr
    refine ⟨rfl, x.done, fun h => Bool.noConfusion h, fun nn => ?_⟩
    have := lim1_c x nn
    rw [← qRow_agg (q := ptsBad) (segOf1_row x)] at this
    exact this
  have ho : outC (fun r => qRow segOf1 ptsBad (elV true r)) (n.segs.map Seg.row) = db (n.segs.any ptsBad) := by
    unfold outC
    rw [List.any_map]
    congr 3
    funext x
    exact qRow_agg (segOf1_row x)
  refine callsA_of hT mixed (N := fun t => (0, t)) Try.func141 h1 h2 r141_ok [] false js_nil js_nil' (by simp [Try.f141]) ?_
  by_cases a1 : (n.nodes.length : Int) < 1
  · simp (config := { maxSteps := 500000 }) only [↓vp, vv, implies_true, forall_const, undef, InI, ↓reduceIte, simprocAttr, c141, r141, c141_1, Net.enc, limB, a1, Pu, decide_true, decide_false]
  · by_cases a2 : (24 : Int) < n.nodes.length
    · simp (config := { maxSteps := 500000 }) only [↓vp, vv, implies_true, forall_const, undef, InI, ↓reduceIte, simprocAttr, c141, r141, c141_1, Net.enc, limB, a1, a2, Pu, decide_true, decide_false]
    · by_cases a3 : (32 : Int) < n.segs.length
      · simp (config := { maxSteps := 500000 }) only [↓vp, vv, implies_true, forall_const, undef, InI, ↓reduceIte, simprocAttr, c141, r141, c141_1, Net.enc, limB, a1, a2, a3, Pu, decide_true, decide_false]
      · by_cases a4 : (24 : Int) < n.ports.length
        · simp (config := { maxSteps := 500000 }) only [↓vp, vv, implies_true, forall_const, undef, InI, ↓reduceIte, simprocAttr, c141, r141, c141_1, Net.enc, limB, a1, a2, a3, a4, Pu, decide_true, decide_false]
        · by_cases a5 : (12 : Int) < n.sts.length
          · simp (config := { maxSteps := 500000 }) only [↓vp, vv, implies_true, forall_const, undef, InI, ↓reduceIte, simprocAttr, c141, r141, c141_1, Net.enc, limB, a1, a2, a3, a4, a5, Pu, decide_true, decide_false]
          · simp (config := { maxSteps := 500000 }) only [↓vp, vv, implies_true, forall_const, undef, InI, ↓reduceIte, simprocAttr, c141, r141, c141_1, Net.enc, limB, a1, a2, a3, a4, a5, selQ, ipsOf, hq, ho, Pu, decide_true, decide_false]
end Go.Proofs.Ytkjibmfggeibjaa
