
/- Ways through a network: the laws' table; the sanity check. -/
import Derived.Test.YtemkjjlpggmolaaRt8
import Derived.Test.YtemkjjlpggmolaaCodeRW
import Derived.Test.YtemkjjlpggmolaaBridge
namespace Go.Proofs.Ytemkjjlpggmolaa
open Go
set_option linter.unusedVariables false
set_option linter.unusedSimpArgs false
set_option maxRecDepth 100000

def selN0 (ok : Net → List Bool → Prop) (out : Net → List Bool → D) : List D → Option (Prop × D)
  | [.agg a, .sl rows] => match netOf1 a, lsOf boolOf1 rows with
    | some n, some c => some (ok n c, out n c)
    | _, _ => Option.none
  | _ => Option.none
theorem tc_n0 {f : FuncId} {T : Tbl} {ok : Net → List Bool → Prop} {out : Net → List Bool → D} (hf : fnOk Try.prog f = true) (h : ∀ n c, ok n c → ∀ nn, CallsA Try.prog f [n.enc, .sl (c.map bRow)] Hp.none nn (Pu (out n c) Hp.none)) (hT : TblOk Try.prog T) : TblOk Try.prog (tc f (rowPu (selN0 ok out)) T) :=
  tc_pu hf (fun args pre d hs hp nn => by
    unfold selN0 at hs
    split at hs
    · split at hs
      · rename_i e1 e2
        cases hs
        rw [netOf1_eq e1, lsOf_eq (fun r x => boolOf1_eq) e2]
        exact h _ _ hp nn
      · cases hs
    · cases hs) hT
def selN1 (ok : Net → List Bool → Int → Prop) (out : Net → List Bool → Int → D) : List D → Option (Prop × D)
  | [.agg a, .sl rows, .v (.int .i64 k)] => match netOf1 a, lsOf boolOf1 rows with
    | some n, some c => some (ok n c k, out n c k)
    | _, _ => Option.none
  | _ => Option.none
theorem tc_n1 {f : FuncId} {T : Tbl} {ok : Net → List Bool → Int → Prop} {out : Net → List Bool → Int → D} (hf : fnOk Try.prog f = true) (h : ∀ n c k, ok n c k → ∀ nn, CallsA Try.prog f [n.enc, .sl (c.map bRow), di k] Hp.none nn (Pu (out n c k) Hp.none)) (hT : TblOk Try.prog T) : TblOk Try.prog (tc f (rowPu (selN1 ok out)) T) :=
  tc_pu hf (fun args pre d hs hp nn => by
    unfold selN1 at hs
    split at hs
    · split at hs
      · rename_i e1 e2
        cases hs
        rw [netOf1_eq e1, lsOf_eq (fun r x => boolOf1_eq) e2]
        exact h _ _ _ hp nn
      · cases hs
    · cases hs) hT
def selN2 (ok : Net → List Bool → Int → Int → Prop) (out : Net → List Bool → Int → Int → D) : List D → Option (Prop × D)
  | [.agg a, .sl rows, .v (.int .i64 k), .v (.int .i64 t)] => match netOf1 a, lsOf boolOf1 rows with
    | some n, some c => some (ok n c k t, out n c k t)
    | _, _ => Option.none
  | _ => Option.none
theorem tc_n2 {f : FuncId} {T : Tbl} {ok : Net → List Bool → Int → Int → Prop} {out : Net → List Bool → Int → Int → D} (hf : fnOk Try.prog f = true) (h : ∀ n c k t, ok n c k t → ∀ nn, CallsA Try.prog f [n.enc, .sl (c.map bRow), di k, di t] Hp.none nn (Pu (out n c k t) Hp.none)) (hT : TblOk Try.prog T) : TblOk Try.prog (tc f (rowPu (selN2 ok out)) T) :=
  tc_pu hf (fun args pre d hs hp nn => by
    unfold selN2 at hs
    split at hs
    · split at hs
      · rename_i e1 e2
        cases hs
        rw [netOf1_eq e1, lsOf_eq (fun r x => boolOf1_eq) e2]
        exact h _ _ _ _ hp nn
      · cases hs
    · cases hs) hT
def selLen : List D → Option (Prop × D)
  | [.agg a, .sl rows] => match netOf1 a, lsOf hopOf1 rows with
    | some n, some w => some (NetSz n ∧ w.length ≤ 1000, .tup [di (lenR n w).1, di (lenR n w).2])
    | _, _ => Option.none
  | _ => Option.none
theorem tc_len {T : Tbl} (hT : TblOk Try.prog T) : TblOk Try.prog (tc 58 (rowPu selLen) T) :=
  tc_pu f58_ok (fun args pre d hs hp nn => by
    unfold selLen at hs
    split at hs
    · split at hs
      · rename_i e1 e2
        cases hs
        rw [netOf1_eq e1, lsOf_eq (fun r x => hopOf1_eq) e2]
        exact Length_c _ hp.1 _ hp.2 nn
      · cases hs
    · cases hs) hT
def selSm : List D → Option (Prop × D)
  | [.sl r, .sl s] => match lsOf hopOf1 r, lsOf hopOf1 s with
    | some a, some b => some (a.length ≤ 1000000 ∧ b.length ≤ 1000000, db (decide (a = b)))
    | _, _ => Option.none
  | _ => Option.none
theorem tc_sm {T : Tbl} (hT : TblOk Try.prog T) : TblOk Try.prog (tc 61 (rowPu selSm) T) :=
  tc_pu f61_ok (fun args pre d hs hp nn => by
    unfold selSm at hs
    split at hs
    · split at hs
      · rename_i e1 e2
        cases hs
        rw [lsOf_eq (fun r x => hopOf1_eq) e1, lsOf_eq (fun r x => hopOf1_eq) e2]
        exact SameH_c _ _ hp nn
      · cases hs
    · cases hs) hT
def selClo : List D → Option (Prop × (List Bool → Prop))
  | [.agg r] => match netOf1 r with
    | some n => some (n.segs.length ≤ 1000, ClPost n)
    | Option.none => Option.none
  | _ => Option.none
theorem tc_clo {T : Tbl} (hT : TblOk Try.prog T) : TblOk Try.prog (tc 60 (rowSrc selClo (fun c => .sl (c.map bRow))) T) :=
  tc_src f60_ok (fun args pre post h hp => by
    unfold selClo at h
    split at h
    · split at h
      · rename_i n e1
        cases h
        rw [netOf1_eq e1]
        exact ⟨⟨List.replicate n.segs.length false, by unfold ClPost; simp⟩, closed_c n hp⟩
      · cases h
    · cases h) hT
structure WyPre (n : Net) (c : List Bool) (a t : Int) : Prop where
  v : RtV n c
  a : 0 ≤ a ∧ a < n.nodes.length
  t : 0 ≤ t ∧ t < n.nodes.length
structure RePre (n : Net) (c : List Bool) (a : Int) : Prop where
  v : RtV n c
  a : 0 ≤ a ∧ a < n.nodes.length
structure CuPre (n : Net) (c : List Bool) (k : Int) : Prop where
  v : RtV n c
  k : 0 ≤ k ∧ k < n.segs.length
def TRa : Tbl := tc 57 (rowPu (selN2 WyPre fun n c a t => wayD n c a.toNat t.toNat)) (tc 58 (rowPu selLen) (tc 66 (rowPu (selN1 CuPre fun n c k => .tup [db (cutB n c k.toNat), di 0])) (tc 61 (rowPu selSm) T0)))
theorem tc_way {T : Tbl} (hT : TblOk Try.prog T) : TblOk Try.prog (tc 57 (rowPu (selN2 WyPre fun n c a t => wayD n c a.toNat t.toNat)) T) := tc_n2 f57_ok (fun n c a t h nn => by
  have := way_c n c h.v a.toNat t.toNat (by have := h.a; omega) (by have := h.t; omega) nn
  rw [show ((a.toNat : Nat) : Int) = a by have := h.a; omega, show ((t.toNat : Nat) : Int) = t by have := h.t; omega] at this
  exact this) hT
theorem tc_cut {T : Tbl} (hT : TblOk Try.prog T) : TblOk Try.prog (tc 66 (rowPu (selN1 CuPre fun n c k => .tup [db (cutB n c k.toNat), di 0])) T) := tc_n1 f66_ok (fun n c k h nn => by
  have := Cuts_c n c h.v k.toNat (by have := h.k; omega) nn
  rw [show ((k.toNat : Nat) : Int) = k by have := h.k; omega] at this
  exact this) hT
theorem TRa_ok : TblOk Try.prog TRa := tc_way (tc_len (tc_cut (tc_sm (T0_ok _))))
def selEx : List D → Option (Prop × D)
  | [] => some (True, exN.enc)
  | _ => Option.none
def TRb : Tbl := tc 130 (rowPu selEx) TRa
theorem TRb_ok : TblOk Try.prog TRb := tc_pu f130_ok (fun args pre d h hp nn => by
  unfold selEx at h
  split at h
  · cases h; exact exN_c nn
  · cases h) TRa_ok
set_option maxHeartbeats 4000000 in
theorem awake13_c (nn : Nm) : CallsA Try.prog 59 [] Hp.none nn (Pu (db true) Hp.none) := by
  obtain ⟨code, h1, h2⟩ := c59_ok
  refine callsA_of TRb_ok mixed (N := fun t => (0, t)) Try.func59 h1 h2 r59_ok [] false js_nil js_nil' (by simp [Try.f59]) ?_
  have hn : ∀ n : Net, netOf1 [D.sl (n.nodes.map nmRow), .sl (n.segs.map Seg.row), .sl (n.ports.map Port.row), .sl (n.sts.map Stn.row), di n.vap, di n.set] = some n := netOf1_row
  have he : selEx [] = some (True, .agg (netD exN)) := rfl
  have hw := exN_way
  have hl := exN_len
  have hc := exN_cut
  have p1 : WyPre exN [true, false, false] 0 2 := ⟨⟨exN_sz, exN_ck, rfl⟩, by decide, by decide⟩
  have p2 : CuPre exN [false, false, false] 2 := ⟨⟨exN_sz, exN_ck, rfl⟩, by decide⟩
  have p3 := exN_sz
  have b1 : lsOf boolOf1 [[db true], [db false], [db false]] = some [true, false, false] := rfl
  have b2 : lsOf boolOf1 [[db false], [db false], [db false]] = some [false, false, false] := rfl
  have b3 : lsOf hopOf1 [[di 1, db false], [di 2, db true]] = some [(1, false), (2, true)] := rfl
  generalize exN = n at hn he hw hl hc p1 p2 p3
  simp (config := { maxSteps := 500000 }) only [↓vp, vv, implies_true, forall_const, undef, InI, ↓reduceIte, simprocAttr, c59, r59, r59, TRb, TRa, netD, selN2, selN1, selLen, selSm, he, hn, hw, hl, hc, p1, p2, p3, b1, b2, b3, hRow, List.map_cons, List.map_nil, Pu]
end Go.Proofs.Ytemkjjlpggmolaa
