
/- Plans out of a source are valid; what laws about them call. -/
import Derived.Test.YtfkhjkkhdfcnjaaFw4
import Derived.Test.YtfkhjkkhdfcnjaaPl5
import Derived.Test.YtfkhjkkhdfcnjaaNkOk
import Derived.Test.YtfkhjkkhdfcnjaaNw
import Derived.Test.YtfkhjkkhdfcnjaaAwF
import Derived.Test.YtfkhjkkhdfcnjaaCodeFO
namespace Go.Proofs.Ytfkhjkkhdfcnjaa
open Go
set_option linter.unusedVariables false
set_option linter.unusedSimpArgs false
set_option maxRecDepth 100000

theorem with_t {r m : Int} (h1 : -m ≤ r) (h2 : r ≤ m) : withB r m = true := by unfold withB; rw [if_pos h1]; exact decide_eq_true h2
theorem len_f {n : Net} {p : Pln} (h1 : p.rates.length = n.segs.length) (h2 : p.ports.length = n.ports.length) (h3 : p.pumps.length = n.sts.length) : lenBad n p = false := by
  unfold lenBad
  rw [h1, h2, h3]
  simp
theorem any_ff {α : Type} {p : α → Bool} {l : List α} (h : ∀ x ∈ l, p x = false) : l.any p = false := List.any_eq_false.2 fun x hx e => by rw [h x hx] at e; cases e
theorem plan0 {n : Net} {p : Pln} (hck : checkI n = 0) (h : PlanOk n p) : fckI n p = 0 := by
  have hv := check0 hck
  unfold fckI
  rw [if_pos hck, len_f h.rl h.ql h.ul, any_ff fun x hx => ?_, any_ff fun r hr => ?_, if_pos ((bal_iff _).2 fun v _ => h.bal v)]
  · have := ord_full (edge_ok p hv) h.mono
    unfold ordB
    rw [this]
    simp
  · have := h.qb r hr
    unfold portBadR
    rw [with_t (by omega) (by omega)]
    rfl
  · have := h.rb x hx
    unfold RateIn at this
    unfold rateBad
    rw [most_min, with_t this.1 this.2]
    rfl
theorem plan_sz {n : Net} {p : Pln} (hn : NetOk n) (h : PlanOk n p) : FckPre n p := by
  have hv := check0 (check_ok hn)
  have := hv.sl
  have := hv.ql
  have := hv.tl
  have := h.rl
  have := h.ql
  have := h.ul
  exact ⟨net_sz hn, ⟨by omega, by omega, by omega⟩⟩
def selPlan : List D → Option (Prop × (Pln → Prop))
  | [.agg r] => match netOf1 r with
    | some n => some (NetV n ∧ 1 ≤ n.ports.length, PlanOk n)
    | Option.none => Option.none
  | _ => Option.none
theorem tc_plan {T : Tbl} (hT : TblOk Try.prog T) : TblOk Try.prog (tc 25 (rowSrc selPlan Pln.enc) T) :=
  tc_src f25_ok (fun args pre post h hp => by
    unfold selPlan at h
    split at h
    · split at h
      · rename_i n hn
        cases h
        rw [netOf1_eq hn]
        exact ⟨⟨⟨_, _, List.replicate n.sts.length false⟩, (pg_zero hp.1).ok List.length_replicate⟩, Plan_c n hp.1 hp.2⟩
      · cases h
    · cases h) hT
theorem ports1 {n : Net} (hn : NetOk n) : 1 ≤ n.ports.length := by
  have hp := hn.ports
  have hl := hn.nlen
  have := hp.hd (by omega)
  cases hq : n.ports with
  | nil => rw [hq] at this; cases this
  | cons => simp
set_option maxHeartbeats 4000000 in
theorem rends_c (s : Seg) (r : Int) (nn : Nm) : CallsA Try.prog 26 [.agg s.row, di r] Hp.none nn (Pu (.tup [di (frOf (s, r)), di (toOf (s, r))]) Hp.none) := by
  obtain ⟨code, h1, h2⟩ := c26_ok
  refine callsA_of (T0_ok _) mixed (N := fun t => (0, t)) Try.func26 h1 h2 r26_ok [] false js_nil js_nil' (by simp [Try.f26]) ?_
  by_cases a1 : r < 0 <;> simp (config := { maxSteps := 500000 }) only [↓vp, vv, implies_true, forall_const, undef, InI, ↓reduceIte, simprocAttr, c26, r26, c26_1, Seg.row, a1, Pu, frOf, toOf]
set_option maxHeartbeats 1000000 in
theorem rabs_c (x : Int) (h : -1000000 ≤ x ∧ x ≤ 1000000) (nn : Nm) : CallsA Try.prog 27 [di x] Hp.none nn (Pu (di (absI x)) Hp.none) := by
  obtain ⟨code, h1, h2⟩ := c27_ok
  refine callsA_of (T0_ok _) mixed (N := fun t => (0, t)) Try.func27 h1 h2 r27_ok [] false js_nil js_nil' (by simp [Try.f27]) ?_
  have w1 : IntKind.i64.wrap (0 - x) = -x := by rw [wrap_i (by omega)]; omega
  have e : (if x < -x then -x else x) = absI x := rfl
  simp (config := { maxSteps := 500000 }) only [↓vp, vv, implies_true, forall_const, undef, InI, ↓reduceIte, simprocAttr, c27, r27, w1, e, Pu]
theorem tc_rends {T : Tbl} (hT : TblOk Try.prog T) : TblOk Try.prog (tc 26 (rowPu selEnds) T) :=
  tc_pu f26_ok (fun args pre d h hp nn => by
    unfold selEnds at h
    split at h
    · split at h
      · rename_i hs
        cases h
        rw [segOf1_eq hs]
        exact rends_c _ _ nn
      · cases h
    · cases h) hT
theorem tc_rabs {T : Tbl} (hT : TblOk Try.prog T) : TblOk Try.prog (tc 27 (rowPu selAbs) T) :=
  tc_pu f27_ok (fun args pre d h hp nn => by
    unfold selAbs at h
    split at h <;> cases h
    exact rabs_c _ hp nn) hT
def selThr : List D → Option (Prop × D)
  | [.agg a, .agg b, .v (.int .i64 k)] => match netOf1 a, plnOf1 b with
    | some n, some p => some (FckPre n p, .tup [di (thrI n p k).1, di (thrI n p k).2])
    | _, _ => Option.none
  | _ => Option.none
theorem tc_thr {T : Tbl} (hT : TblOk Try.prog T) : TblOk Try.prog (tc 28 (rowPu selThr) T) :=
  tc_pu f28_ok (fun args pre d h hp nn => by
    unfold selThr at h
    split at h
    · split at h
      · rename_i e1 e2
        cases h
        rw [netOf1_eq e1, plnOf1_eq e2]
        exact fThrough_c _ _ _ hp nn
      · cases h
    · cases h) hT
/-- What the laws of flow call. -/
def TL1 : Tbl := tc 36 (rowPu (selNP FckPre fun n p => .tup [.sl ((ordR n p).map nRow), di (fckI n p)])) (tc 32 (rowPu (selNP FckPre fun n p => di (fckI n p))) (tc 30 (rowPu (selNP FckPre fun n p => .tup [di (feedI n p).1, di (feedI n p).2, di (fckI n p)])) (tc 28 (rowPu selThr) (tc 26 (rowPu selEnds) (tc 27 (rowPu selAbs) (tc 29 (rowPu selAw) (tc 17 rowNew (tc 18 (rowSrc (sel0 NetOk) Net.enc) (tc 25 (rowSrc selPlan Pln.enc) T0)))))))))
theorem TL1_ok : TblOk Try.prog TL1 := by
  refine tc_np f36_ok (fun n p h nn => fOrder_c n p h nn) (tc_np f32_ok (fun n p h nn => fcheck_c n p h.1 h.2 nn) (tc_np f30_ok (fun n p h nn => fFeeds_c n p h nn) (tc_thr (tc_rends (tc_rabs (tc_pu f29_ok (fun args pre d h hp nn => ?_) (tc_new (tc_net (tc_plan (T0_ok _))))))))))
  unfold selAw at h
  split at h <;> cases h
  exact awake16_c nn
end Go.Proofs.Ytfkhjkkhdfcnjaa
